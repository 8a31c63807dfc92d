/- Contracts of functions of the program: what each returns. Conditions: the hypotheses of each theorem. -/
import Derived.Test.YtkllojjpaelmhaaLaw
import Derived.Test.YtkllojjpaelmhaaSha
import Derived.Test.YtkllojjpaelmhaaSrA
import Derived.Test.YtkllojjpaelmhaaPlY
set_option linter.unusedVariables false
set_option linter.unusedSimpArgs false
namespace Go.Proofs.Ytkllojjpaelmhaa
open Go Go.Cx

theorem go46 : isGo Try.prog 46 = true := by kernel_rfl
theorem go47 : isGo Try.prog 47 = true := by kernel_rfl
theorem go48 : isGo Try.prog 48 = true := by kernel_rfl
theorem go49 : isGo Try.prog 49 = true := by kernel_rfl
theorem ag29 : aggS Try.prog 29 = some 3 := by kernel_rfl
theorem fl62 : flat Try.prog 62 [.num .u8, .num .u8, .num .u8, .num .u8, .num .u8, .num .u8, .num .u8, .num .u8, .num .u8, .num .u8, .num .u8, .num .u8, .num .u8, .num .u8, .num .u8, .num .u8, .num .u8, .num .u8, .num .u8, .num .u8, .num .u8, .num .u8, .num .u8, .num .u8, .num .u8, .num .u8, .num .u8, .num .u8, .num .u8, .num .u8, .num .u8, .num .u8] = true := by kernel_rfl
theorem go11 : isGo Try.prog 11 = true := by kernel_rfl
theorem go17 : isGo Try.prog 17 = true := by kernel_rfl
theorem go26 : isGo Try.prog 26 = true := by kernel_rfl
theorem go27 : isGo Try.prog 27 = true := by kernel_rfl
theorem pb31 : ptrB Try.prog 31 = true := by kernel_rfl

set_option maxHeartbeats 3200000 in
theorem f_digest (D : Pl.Dv) (m : Nat) (Z : List (Nat × Blk)) (w0 : World) (hZ : OwnZ w0 Z) (hz : DevZ 79 83 5 D m Z) (n : Int) (q : Option Addr) (cq : Nat) (es : List (Int × Int)) (hn : 1 ≤ n) (hn2 : Pl.I64 n) (hes : ∀ e ∈ es, Pl.I64 e.1 ∧ Pl.I64 e.2) (hq : Rd w0 q (es.flatMap encE)) (hl : es.length ≤ 10) (hon : ∀ e ∈ es, Pl.onD D e.1 e.2 = true) (hd : D.dn = false) : C Try.prog 26 [.pointer (some ⟨m, 0, none⟩), .int .i64 n, .slice q es.length cq] w0 fun v w' => v = .tuple ⟨[.agg ⟨(Pl.sha (es.flatMap fun e => Pl.rdB D e.1 e.2)).flatMap encB⟩, .int .i64 0]⟩ ∧ Ext No w0 w' := by
  have hok := hz.ok
  have hdl := Pl.sha_len (es.flatMap fun e => Pl.rdB D e.1 e.2)
  obtain ⟨dg, hdg⟩ : ∃ d, Pl.sha (es.flatMap fun e => Pl.rdB D e.1 e.2) = d := ⟨_, rfl⟩
  rw [hdg] at hdl ⊢
  refine C_of Try.func26 rfl rfl rfl fun κ hret hnorm => ?_
  have hm := Mem.start w0
  refine HW_seq rfl ?_
  refine HW_text (.act 0 (.pure 1 .done)) (by kernel_rfl) ?_
  refine a_alloc rfl rfl z62 hm trivial fun m1 w hg_m1 hm hh => ?_
  refine rw_p rfl rfl (y_assign rfl) ?_
  refine rw_done ?_
  refine gn_sq ?_
  refine HW_seq rfl ?_
  refine HW_seq rfl ?_
  refine HW_text (.pure 0 (.pure 1 .done)) (by kernel_rfl) ?_
  refine rw_p rfl rfl (y_move rfl) ?_
  refine rw_p rfl rfl (y_pnil rfl rfl pb30) ?_
  refine rw_done ?_
  refine gn_sq ?_
  refine HW_condF rfl rfl rfl ?_
  refine HW_skip rfl ?_
  refine gn_sq ?_
  refine HW_seq rfl ?_
  refine HW_seq rfl ?_
  refine HW_text (.pure 0 (.pure 1 .done)) (by kernel_rfl) ?_
  refine rw_p rfl rfl (y_move rfl) ?_
  refine rw_p rfl rfl (y_as (c := false) (y_lt rfl rfl) (decide_eq_false (by omega))) ?_
  refine rw_done ?_
  refine gn_sq ?_
  refine HW_condF rfl rfl rfl ?_
  refine HW_skip rfl ?_
  refine gn_sq ?_
  refine HW_seq rfl ?_
  refine HW_seq rfl ?_
  refine HW_text (.pure 0 (.pure 1 (.pure 2 .done))) (by kernel_rfl) ?_
  refine rw_p rfl rfl (y_move rfl) ?_
  refine rw_p rfl rfl (y_len rfl rfl sl61) ?_
  refine rw_p rfl rfl (y_move rfl) ?_
  refine rw_done ?_
  refine gn_sq ?_
  refine HW_block rfl ?_
  refine HW_loopK (ι := Nat) rfl (ks := [0, 1, 2, 6, 24, 25]) (.cons rfl (.cons rfl (.cons rfl (.cons rfl (.cons rfl (.cons rfl .nil)))))) (fun x => [(26, .int .i64 x)]) (fun x w => Mem w0 w No [(m1, .row 62 [.int .u8 0, .int .u8 0, .int .u8 0, .int .u8 0, .int .u8 0, .int .u8 0, .int .u8 0, .int .u8 0, .int .u8 0, .int .u8 0, .int .u8 0, .int .u8 0, .int .u8 0, .int .u8 0, .int .u8 0, .int .u8 0, .int .u8 0, .int .u8 0, .int .u8 0, .int .u8 0, .int .u8 0, .int .u8 0, .int .u8 0, .int .u8 0, .int .u8 0, .int .u8 0, .int .u8 0, .int .u8 0, .int .u8 0, .int .u8 0, .int .u8 0, .int .u8 0])] ∧ x ≤ es.length) (fun x => es.length - x) 0 (⟨hm, Nat.zero_le _⟩) ⟨rfl, trivial⟩ (fun x w hM => ?_)
  obtain ⟨hm, hk⟩ := hM
  refine HW_seq rfl ?_
  refine HW_text (.pure 0 .done) (by kernel_rfl) ?_
  refine rw_p rfl rfl (y_lt rfl rfl) ?_
  refine rw_done ?_
  refine gn_sq ?_
  refine HW_seq rfl ?_
  refine HW_cond rfl rfl (fun hc2 => ?_) (fun hc2 => ?_)
  ·
    simp only [decide_eq_true_eq] at hc2
    obtain ⟨e, hi⟩ : ∃ y_, es[x]? = some y_ := ⟨_, List.getElem?_eq_getElem (by omega)⟩
    obtain ⟨qb, qo, rfl⟩ := hq.atI encE_len (by decide) hi
    have hem := List.mem_of_getElem? hi
    obtain ⟨hi1, hi2⟩ := hes e hem
    have hoe := hon e hem
    refine HW_skip rfl ?_
    refine gn_sq ?_
    refine HW_seq rfl ?_
    refine HW_block rfl ?_
    refine HW_seq rfl ?_
    refine HW_text (.pure 0 (.pure 1 (.act 2 (.act 3 .done)))) (by kernel_rfl) ?_
    refine rw_p rfl rfl (y_index rfl rfl sl61 rfl (by omega) (by omega)) ?_
    refine rw_p rfl rfl (y_elA rfl ag23 (hq.ext0 hm.to).nt encE_len hi) ?_
    refine a_alloc rfl rfl z23 hm trivial fun m2 w hg_m2 hm hh => ?_
    refine a_store rfl rfl rfl rfl sz23 rfl hm 0 rfl rfl fun w hm => ?_
    refine rw_done ?_
    refine gn_sq ?_
    refine HW_seq rfl ?_
    refine HW_text (.pure 0 (.pure 1 (.act 2 (.pure 3 .done)))) (by kernel_rfl) ?_
    refine rw_p rfl rfl (y_move rfl) ?_
    refine rw_p rfl rfl (y_loadA (s := 2) (vs := [_, _]) rfl ag23 (hm.nt 0 rfl) rfl) ?_
    refine a_call rfl rfl rfl go39 (C.as (v := .int .i64 0) (f_check D m Z _ (hZ.ext hm.to) hz e.1 e.2 hi1 hi2) (by rw [if_pos hoe])) fun v w hR => ?_
    obtain ⟨rfl, hE⟩ := hR
    refine ⟨trivial, ?_⟩
    replace hm := hm.ext hE
    refine rw_p rfl rfl (y_assign rfl) ?_
    refine rw_done ?_
    refine gn_sq ?_
    refine HW_seq rfl ?_
    refine HW_text (.pure 0 (.pure 1 .done)) (by kernel_rfl) ?_
    refine rw_p rfl rfl (y_move rfl) ?_
    refine rw_p rfl rfl (y_as (c := false) (y_ne rfl rfl) (by decide)) ?_
    refine rw_done ?_
    refine gn_sq ?_
    refine HW_condF rfl rfl rfl ?_
    refine HW_skip rfl ?_
    refine gn_bl ?_
    refine gn_sq ?_
    refine HW_text (.pure 0 (.pure 1 .done)) (by kernel_rfl) ?_
    refine rw_p rfl rfl (y_add rfl rfl (i64w (by omega) (by omega))) ?_
    refine rw_p rfl rfl (y_move rfl) ?_
    refine rw_done ?_
    refine next (x + 1) (by omega) ⟨(hm.pick [1] rfl), by omega⟩ ⟨nx x, rfl, rfl, rfl, rfl, rfl, rfl, trivial⟩
  ·
    refine HW_exit rfl ?_
    refine gx_sq (gx_lp ?_)
    refine gx_here ?_
    refine gn_sq ?_
    refine HW_seq rfl ?_
    refine HW_text (.act 0 (.pure 1 .done)) (by kernel_rfl) ?_
    refine a_call rfl rfl rfl go46 (h_new _) fun v w hR => ?_
    obtain ⟨m_h, Z_h, rfl, hz_h, hmc⟩ := hR
    refine ⟨trivial, ?_⟩
    replace hm := Mem.callTZ hm hmc
    refine rw_p rfl rfl (y_assign rfl) ?_
    refine rw_done ?_
    refine gn_sq ?_
    refine HW_seq rfl ?_
    refine HW_seq rfl ?_
    refine HW_text (.pure 0 (.pure 1 (.pure 2 .done))) (by kernel_rfl) ?_
    refine rw_p rfl rfl (y_move rfl) ?_
    refine rw_p rfl rfl (y_len rfl rfl sl61) ?_
    refine rw_p rfl rfl (y_move rfl) ?_
    refine rw_done ?_
    refine gn_sq ?_
    refine HW_block rfl ?_
    refine HW_loopK (ι := Nat × List (Nat × Blk)) rfl (ks := [0, 1, 6, 11, 39, 40]) (.cons rfl (.cons rfl (.cons rfl (.cons rfl (.cons rfl (.cons rfl .nil)))))) (fun y => [(41, .int .i64 y.1)]) (fun y w => Mem w0 w No ((m1, .row 62 [.int .u8 0, .int .u8 0, .int .u8 0, .int .u8 0, .int .u8 0, .int .u8 0, .int .u8 0, .int .u8 0, .int .u8 0, .int .u8 0, .int .u8 0, .int .u8 0, .int .u8 0, .int .u8 0, .int .u8 0, .int .u8 0, .int .u8 0, .int .u8 0, .int .u8 0, .int .u8 0, .int .u8 0, .int .u8 0, .int .u8 0, .int .u8 0, .int .u8 0, .int .u8 0, .int .u8 0, .int .u8 0, .int .u8 0, .int .u8 0, .int .u8 0, .int .u8 0]) :: y.2) ∧ HashZ 121 5 ((es.take y.1).flatMap fun e => Pl.rdB D e.1 e.2) m_h y.2 ∧ y.1 ≤ es.length) (fun y => es.length - y.1) (0, Z_h) (⟨(hm.pickT [0] 1 rfl), hz_h, Nat.zero_le _⟩) ⟨rfl, trivial⟩ (fun y w hM => ?_)
    obtain ⟨hm, hz_h, hk⟩ := hM
    refine HW_seq rfl ?_
    refine HW_text (.pure 0 .done) (by kernel_rfl) ?_
    refine rw_p rfl rfl (y_lt rfl rfl) ?_
    refine rw_done ?_
    refine gn_sq ?_
    refine HW_seq rfl ?_
    refine HW_cond rfl rfl (fun hc4 => ?_) (fun hc4 => ?_)
    ·
      obtain ⟨i, Z_h⟩ := y
      simp only at hm hz_h hk hc4 ⊢
      simp only [decide_eq_true_eq] at hc4
      obtain ⟨e, hi⟩ : ∃ y_, es[i]? = some y_ := ⟨_, List.getElem?_eq_getElem (by omega)⟩
      obtain ⟨qb, qo, rfl⟩ := hq.atI encE_len (by decide) hi
      have hem := List.mem_of_getElem? hi
      obtain ⟨hi1, hi2⟩ := hes e hem
      have hoe := hon e hem
      have hv := Pl.onD_iff.1 hoe
      have hbd := Pl.flat_bnd (fun e : Int × Int => Pl.rdB D e.1 e.2) (fun e => rdB_len hok e.1 e.2) (es.take i)
      have htl : (es.take i).length ≤ 10 := by rw [List.length_take]; omega
      refine HW_skip rfl ?_
      refine gn_sq ?_
      refine HW_seq rfl ?_
      refine HW_block rfl ?_
      refine HW_seq rfl ?_
      refine HW_text (.pure 0 (.pure 1 (.act 2 (.act 3 .done)))) (by kernel_rfl) ?_
      refine rw_p rfl rfl (y_index rfl rfl sl61 rfl (by omega) (by omega)) ?_
      refine rw_p rfl rfl (y_elA rfl ag23 (hq.ext0 hm.to).nt encE_len hi) ?_
      refine a_alloc rfl rfl z23 hm trivial fun m2 w hg_m2 hm hh => ?_
      refine a_store rfl rfl rfl rfl sz23 rfl hm 0 rfl rfl fun w hm => ?_
      refine rw_done ?_
      refine gn_sq ?_
      refine HW_seq rfl ?_
      refine HW_text (.pure 0 (.pure 1 (.act 2 (.pure 3 (.pure 4 .done))))) (by kernel_rfl) ?_
      refine rw_p rfl rfl (y_loadA (s := 2) (vs := [_, _]) rfl ag23 (hm.nt 0 rfl) rfl) ?_
      refine rw_p rfl rfl (y_move rfl) ?_
      refine a_call rfl rfl rfl go47 (ext_split e.1 e.2 n _ (by omega) hn2) fun v w hR => ?_
      obtain ⟨p_p, cap_p, g_p, b_p, np, rfl, hnp, ha_p, hmc⟩ := hR
      refine ⟨trivial, ?_⟩
      replace hm := hm.callN hmc
      have hnpl := Pl.pieces_le e.2 n
      refine rw_p rfl rfl (y_len rfl rfl sl61) ?_
      refine rw_p rfl rfl (y_move rfl) ?_
      refine rw_done ?_
      refine gn_sq ?_
      refine HW_block rfl ?_
      refine HW_loopK (ι := Nat × List (Nat × Blk)) rfl (ks := [0, 1, 6, 11, 39, 40, 41, 47, 48]) (.cons rfl (.cons rfl (.cons rfl (.cons rfl (.cons rfl (.cons rfl (.cons rfl (.cons rfl (.cons rfl .nil))))))))) (fun z => [(49, .int .i64 z.1)]) (fun z w => Mem w0 w No ((g_p, b_p) :: (m1, .row 62 [.int .u8 0, .int .u8 0, .int .u8 0, .int .u8 0, .int .u8 0, .int .u8 0, .int .u8 0, .int .u8 0, .int .u8 0, .int .u8 0, .int .u8 0, .int .u8 0, .int .u8 0, .int .u8 0, .int .u8 0, .int .u8 0, .int .u8 0, .int .u8 0, .int .u8 0, .int .u8 0, .int .u8 0, .int .u8 0, .int .u8 0, .int .u8 0, .int .u8 0, .int .u8 0, .int .u8 0, .int .u8 0, .int .u8 0, .int .u8 0, .int .u8 0, .int .u8 0]) :: z.2) ∧ HashZ 121 5 (((es.take i).flatMap fun e => Pl.rdB D e.1 e.2) ++ (Pl.hfD D e.1 e.2 n z.1)) m_h z.2 ∧ z.1 ≤ np) (fun z => np - z.1) (0, Z_h) (⟨(hm.pickT [0, 2] 3 rfl), by rw [Pl.dig_first hv.2.1, List.append_nil]; exact hz_h, Nat.zero_le _⟩) ⟨rfl, trivial⟩ (fun z w hM => ?_)
      obtain ⟨hm, hz_h, hk2⟩ := hM
      refine HW_seq rfl ?_
      refine HW_text (.pure 0 .done) (by kernel_rfl) ?_
      refine rw_p rfl rfl (y_lt rfl rfl) ?_
      refine rw_done ?_
      refine gn_sq ?_
      refine HW_seq rfl ?_
      refine HW_cond rfl rfl (fun hc5 => ?_) (fun hc5 => ?_)
      ·
        obtain ⟨k, Z_h⟩ := z
        simp only at hm hz_h hk2 hc5 ⊢
        simp only [decide_eq_true_eq] at hc5
        have hi : (List.range np)[k]? = some k := by rw [List.getElem?_range]; omega
        obtain ⟨b3, o3, rfl⟩ := (ha_p.rd hm 0 rfl).atI (es := 2) (fun _ => rfl) (by decide) hi
        obtain ⟨dn1, dn2, dn3, dn4⟩ := Pl.dig_next hok hd hoe hnp (show k < np by omega)
        have hhl := Pl.hfD_len hok e.1 e.2 n k
        refine HW_skip rfl ?_
        refine gn_sq ?_
        refine HW_seq rfl ?_
        refine HW_block rfl ?_
        refine HW_seq rfl ?_
        refine HW_text (.pure 0 (.pure 1 (.act 2 (.act 3 .done)))) (by kernel_rfl) ?_
        refine rw_p rfl rfl (y_index rfl rfl sl61 rfl (by omega) (by omega)) ?_
        refine rw_p rfl rfl (y_elA rfl ag23 (ha_p.rd hm 0 rfl).nt (fun _ => rfl) hi) ?_
        refine a_alloc rfl rfl z23 hm trivial fun m3 w hg_m3 hm hh => ?_
        refine a_store rfl rfl rfl rfl sz23 rfl hm 0 rfl rfl fun w hm => ?_
        refine rw_done ?_
        refine gn_sq ?_
        refine HW_seq rfl ?_
        refine HW_text (.pure 0 (.pure 1 (.act 2 (.pure 3 (.pure 4 (.pure 5 (.pure 6 (.pure 7 .done)))))))) (by kernel_rfl) ?_
        refine rw_p rfl rfl (y_move rfl) ?_
        refine rw_p rfl rfl (y_loadA (s := 2) (vs := [_, _]) rfl ag23 (hm.nt 0 rfl) rfl) ?_
        refine a_call rfl rfl rfl go16 (f_readA D m Z _ (hZ.ext hm.to) hz (Pl.piece e.1 e.2 n k).1 (Pl.piece e.1 e.2 n k).2 dn1 dn2) fun v w hR => ?_
        obtain ⟨p_s, cap_s, g_s, b_s, rfl, ha_s, hmc⟩ := hR
        refine ⟨trivial, ?_⟩
        have hg_s : b_s.real = true → _ := fun hr => (hmc.fresh _ List.mem_cons_self hr).resolve_left id
        replace hm := hm.callN hmc
        rw [dn3]
        have hsl := rdB_len hok (Pl.piece e.1 e.2 n k).1 (Pl.piece e.1 e.2 n k).2
        refine rw_p rfl rfl (y_move rfl) ?_
        refine rw_p rfl rfl (y_extract rfl rfl) ?_
        refine rw_p rfl rfl (y_extract rfl rfl) ?_
        refine rw_p rfl rfl (y_assign rfl) ?_
        refine rw_p rfl rfl (y_assign rfl) ?_
        refine rw_done ?_
        refine gn_sq ?_
        refine HW_seq rfl ?_
        refine HW_seq rfl ?_
        refine HW_text (.pure 0 (.pure 1 .done)) (by kernel_rfl) ?_
        refine rw_p rfl rfl (y_move rfl) ?_
        refine rw_p rfl rfl (y_as (c := false) (y_ne rfl rfl) (by decide)) ?_
        refine rw_done ?_
        refine gn_sq ?_
        refine HW_condF rfl rfl rfl ?_
        refine HW_skip rfl ?_
        refine gn_sq ?_
        refine HW_text (.pure 0 (.pure 1 (.act 2 (.act 3 .done)))) (by kernel_rfl) ?_
        refine rw_p rfl rfl (y_move rfl) ?_
        refine rw_p rfl rfl (y_move rfl) ?_
        refine a_buildSlice (l := [_]) rfl rfl sl96 z27 rfl rfl rfl rfl rfl rfl rfl hm trivial fun m4 w hg_m4 hm hh => ?_
        refine a_call rfl rfl rfl go48 (h_write _ 1 [⟨p_s, cap_s, Pl.rdB D (Pl.piece e.1 e.2 n k).1 (Pl.piece e.1 e.2 n k).2⟩] 121 m_h _ Z_h _ (OwnZ.right (A := [_, _, _, _, _]) hm.ownZ) hz_h (by rw [List.length_append]; omega) (Rd.row0 (hm.get (k := 0) rfl)) (fun s hs => by rw [List.mem_singleton.1 hs]; exact ha_s.rd hm 1 rfl) (hm.notS (A := [_, _, _, _, _]) 0 rfl) (fun s hs => by rw [List.mem_singleton.1 hs]; exact hm.notR (A := [_, _, _, _, _]) ha_s 1 rfl) (by simp) (by simp only [List.length_append, List.flatMap_cons, List.flatMap_nil, List.append_nil]; omega)) fun v w hR => ?_
        obtain ⟨rfl, Z_h, hz_h, hmc⟩ := hR
        refine ⟨trivial, ?_⟩
        replace hm := Mem.callZL (A := [_, _, _, _, _]) hm hmc
        simp only [List.flatMap_cons, List.flatMap_nil, List.append_nil] at hz_h
        refine rw_done ?_
        refine gn_bl ?_
        refine gn_sq ?_
        refine HW_text (.pure 0 (.pure 1 .done)) (by kernel_rfl) ?_
        refine rw_p rfl rfl (y_add rfl rfl (i64w (by omega) (by omega))) ?_
        refine rw_p rfl rfl (y_move rfl) ?_
        refine rw_done ?_
        refine next (k + 1, Z_h) (by simp only; omega) ⟨(hm.pickT [3, 4] 5 rfl), ?_, by simp only; omega⟩ ⟨nx k, rfl, rfl, rfl, rfl, rfl, rfl, rfl, rfl, rfl, trivial⟩
        simp only
        rw [dn4, ← List.append_assoc]
        exact hz_h
      ·
        obtain ⟨k, Z_h⟩ := z
        simp only at hm hz_h hk2 hc5 ⊢
        simp only [decide_eq_false_iff_not] at hc5
        have hke : k = np := by omega
        rw [hke, Pl.dig_last hok hd hoe hn hnp] at hz_h
        refine HW_exit rfl ?_
        refine gx_sq (gx_lp ?_)
        refine gx_here ?_
        refine gn_bl ?_
        refine gn_sq ?_
        refine HW_text (.pure 0 (.pure 1 .done)) (by kernel_rfl) ?_
        refine rw_p rfl rfl (y_add rfl rfl (i64w (by omega) (by omega))) ?_
        refine rw_p rfl rfl (y_move rfl) ?_
        refine rw_done ?_
        refine next (i + 1, Z_h) (by simp only; omega) ⟨(hm.pickT [1] 2 rfl), ?_, by simp only; omega⟩ ⟨nx i, rfl, rfl, rfl, rfl, rfl, rfl, trivial⟩
        simp only
        rw [Pl.flat_snoc _ hi]
        exact hz_h
    ·
      obtain ⟨i, Z_h⟩ := y
      simp only at hm hz_h hk hc4 ⊢
      simp only [decide_eq_false_iff_not] at hc4
      have hke : i = es.length := by omega
      rw [hke, List.take_length] at hz_h
      have hbd := Pl.flat_bnd (fun e : Int × Int => Pl.rdB D e.1 e.2) (fun e => rdB_len hok e.1 e.2) es
      refine HW_exit rfl ?_
      refine gx_sq (gx_lp ?_)
      refine gx_here ?_
      refine gn_sq ?_
      refine HW_seq rfl ?_
      refine HW_text (.pure 0 (.act 1 (.act 2 (.pure 3 .done)))) (by kernel_rfl) ?_
      refine rw_p rfl rfl (y_move rfl) ?_
      refine a_call rfl rfl rfl go49 (C.as (v := .agg ⟨dg.flatMap encB⟩) (h_sum 121 m_h _ Z_h _ (OwnZ.right (A := [_]) hm.ownZ) hz_h (by omega)) (by rw [hdg])) fun v w hR => ?_
      obtain ⟨rfl, hE⟩ := hR
      refine ⟨trivial, ?_⟩
      replace hm := hm.ext hE
      refine a_store rfl rfl rfl rfl (sz62.trans (congrArg some (lenB32 hdl).symm)) (oneB _) hm 0 rfl (by rw [Nat.ble_eq, lenB32 hdl]; exact Nat.le_refl 32) fun w hm => ?_
      rw [upds_z32 hdl] at hm
      refine rw_p rfl rfl (y_assign rfl) ?_
      refine rw_done ?_
      refine gn_sq ?_
      refine HW_ret rfl ?_
      refine toR (fin hret rfl (.cell rfl (run_loadVar_a (vs := ((dg).flatMap encB)) ag62 (hm.get (k := 0) rfl) (nthsB hdl)) (.tmp rfl .nil)) .more ?_)
      exact ⟨rfl, hm.to⟩

theorem f_digestN (n : Int) (q : Option Addr) (cq : Nat) (es : List (Int × Int)) (w0 : World) : C Try.prog 26 [.pointer none, .int .i64 n, .slice q es.length cq] w0 fun v w' => v = .tuple ⟨[.agg ⟨(List.replicate 32 (0 : UInt8)).flatMap encB⟩, .int .i64 1]⟩ ∧ Ext No w0 w' := by
  refine C_of Try.func26 rfl rfl rfl fun κ hret hnorm => ?_
  have hm := Mem.start w0
  refine HW_seq rfl ?_
  refine HW_text (.act 0 (.pure 1 .done)) (by kernel_rfl) ?_
  refine a_alloc rfl rfl z62 hm trivial fun m1 w hg_m1 hm hh => ?_
  refine rw_p rfl rfl (y_assign rfl) ?_
  refine rw_done ?_
  refine gn_sq ?_
  refine HW_seq rfl ?_
  refine HW_seq rfl ?_
  refine HW_text (.pure 0 (.pure 1 .done)) (by kernel_rfl) ?_
  refine rw_p rfl rfl (y_move rfl) ?_
  refine rw_p rfl rfl (y_pnil rfl rfl pb30) ?_
  refine rw_done ?_
  refine gn_sq ?_
  refine HW_condT rfl rfl rfl ?_
  refine HW_seq rfl ?_
  refine HW_text (.pure 0 (.act 1 (.pure 2 .done))) (by kernel_rfl) ?_
  refine rw_p rfl rfl (y_build (cs := [_, _, _, _, _, _, _, _, _, _, _, _, _, _, _, _, _, _, _, _, _, _, _, _, _, _, _, _, _, _, _, _]) z62 ft62 rfl rfl rfl rfl rfl) ?_
  refine a_store rfl rfl rfl rfl sz62 rfl hm 0 rfl rfl fun w hm => ?_
  refine rw_p rfl rfl (y_assign rfl) ?_
  refine rw_done ?_
  refine gn_sq ?_
  refine HW_ret rfl ?_
  refine gr_sq ?_
  refine toR (fin hret rfl (.cell rfl (run_loadVar_a (vs := [_, _, _, _, _, _, _, _, _, _, _, _, _, _, _, _, _, _, _, _, _, _, _, _, _, _, _, _, _, _, _, _]) ag62 (hm.get (k := 0) rfl) rfl) (.tmp rfl .nil)) .more ?_)
  exact ⟨rfl, hm.to⟩

theorem f_digestX (m : Nat) (n : Int) (q : Option Addr) (cq : Nat) (es : List (Int × Int)) (w0 : World) (hn : n < 1) : C Try.prog 26 [.pointer (some ⟨m, 0, none⟩), .int .i64 n, .slice q es.length cq] w0 fun v w' => v = .tuple ⟨[.agg ⟨(List.replicate 32 (0 : UInt8)).flatMap encB⟩, .int .i64 20]⟩ ∧ Ext No w0 w' := by
  refine C_of Try.func26 rfl rfl rfl fun κ hret hnorm => ?_
  have hm := Mem.start w0
  refine HW_seq rfl ?_
  refine HW_text (.act 0 (.pure 1 .done)) (by kernel_rfl) ?_
  refine a_alloc rfl rfl z62 hm trivial fun m1 w hg_m1 hm hh => ?_
  refine rw_p rfl rfl (y_assign rfl) ?_
  refine rw_done ?_
  refine gn_sq ?_
  refine HW_seq rfl ?_
  refine HW_seq rfl ?_
  refine HW_text (.pure 0 (.pure 1 .done)) (by kernel_rfl) ?_
  refine rw_p rfl rfl (y_move rfl) ?_
  refine rw_p rfl rfl (y_pnil rfl rfl pb30) ?_
  refine rw_done ?_
  refine gn_sq ?_
  refine HW_condF rfl rfl rfl ?_
  refine HW_skip rfl ?_
  refine gn_sq ?_
  refine HW_seq rfl ?_
  refine HW_seq rfl ?_
  refine HW_text (.pure 0 (.pure 1 .done)) (by kernel_rfl) ?_
  refine rw_p rfl rfl (y_move rfl) ?_
  refine rw_p rfl rfl (y_as (c := true) (y_lt rfl rfl) (decide_eq_true hn)) ?_
  refine rw_done ?_
  refine gn_sq ?_
  refine HW_condT rfl rfl rfl ?_
  refine HW_seq rfl ?_
  refine HW_text (.pure 0 (.act 1 (.pure 2 .done))) (by kernel_rfl) ?_
  refine rw_p rfl rfl (y_build (cs := [_, _, _, _, _, _, _, _, _, _, _, _, _, _, _, _, _, _, _, _, _, _, _, _, _, _, _, _, _, _, _, _]) z62 ft62 rfl rfl rfl rfl rfl) ?_
  refine a_store rfl rfl rfl rfl sz62 rfl hm 0 rfl rfl fun w hm => ?_
  refine rw_p rfl rfl (y_assign rfl) ?_
  refine rw_done ?_
  refine gn_sq ?_
  refine HW_ret rfl ?_
  refine gr_sq ?_
  refine toR (fin hret rfl (.cell rfl (run_loadVar_a (vs := [_, _, _, _, _, _, _, _, _, _, _, _, _, _, _, _, _, _, _, _, _, _, _, _, _, _, _, _, _, _, _, _]) ag62 (hm.get (k := 0) rfl) rfl) (.tmp rfl .nil)) .more ?_)
  exact ⟨rfl, hm.to⟩

set_option maxHeartbeats 1600000 in
theorem f_digestF (D : Pl.Dv) (m : Nat) (Z : List (Nat × Blk)) (w0 : World) (hZ : OwnZ w0 Z) (hz : DevZ 79 83 5 D m Z) (n : Int) (q : Option Addr) (cq : Nat) (es : List (Int × Int)) (hn : 1 ≤ n) (hn2 : Pl.I64 n) (hes : ∀ e ∈ es, Pl.I64 e.1 ∧ Pl.I64 e.2) (hq : Rd w0 q (es.flatMap encE)) (hl : es.length ≤ 10) (j : Nat) (ej : Int × Int) (hj : es[j]? = some ej) (hjo : Pl.onD D ej.1 ej.2 = false) (hpr : ∀ k e, k < j → es[k]? = some e → Pl.onD D e.1 e.2 = true) : C Try.prog 26 [.pointer (some ⟨m, 0, none⟩), .int .i64 n, .slice q es.length cq] w0 fun v w' => v = .tuple ⟨[.agg ⟨(List.replicate 32 (0 : UInt8)).flatMap encB⟩, .int .i64 2]⟩ ∧ Ext No w0 w' := by
  have hjl := (List.getElem?_eq_some_iff.1 hj).1
  refine C_of Try.func26 rfl rfl rfl fun κ hret hnorm => ?_
  have hm := Mem.start w0
  refine HW_seq rfl ?_
  refine HW_text (.act 0 (.pure 1 .done)) (by kernel_rfl) ?_
  refine a_alloc rfl rfl z62 hm trivial fun m1 w hg_m1 hm hh => ?_
  refine rw_p rfl rfl (y_assign rfl) ?_
  refine rw_done ?_
  refine gn_sq ?_
  refine HW_seq rfl ?_
  refine HW_seq rfl ?_
  refine HW_text (.pure 0 (.pure 1 .done)) (by kernel_rfl) ?_
  refine rw_p rfl rfl (y_move rfl) ?_
  refine rw_p rfl rfl (y_pnil rfl rfl pb30) ?_
  refine rw_done ?_
  refine gn_sq ?_
  refine HW_condF rfl rfl rfl ?_
  refine HW_skip rfl ?_
  refine gn_sq ?_
  refine HW_seq rfl ?_
  refine HW_seq rfl ?_
  refine HW_text (.pure 0 (.pure 1 .done)) (by kernel_rfl) ?_
  refine rw_p rfl rfl (y_move rfl) ?_
  refine rw_p rfl rfl (y_as (c := false) (y_lt rfl rfl) (decide_eq_false (by omega))) ?_
  refine rw_done ?_
  refine gn_sq ?_
  refine HW_condF rfl rfl rfl ?_
  refine HW_skip rfl ?_
  refine gn_sq ?_
  refine HW_seq rfl ?_
  refine HW_seq rfl ?_
  refine HW_text (.pure 0 (.pure 1 (.pure 2 .done))) (by kernel_rfl) ?_
  refine rw_p rfl rfl (y_move rfl) ?_
  refine rw_p rfl rfl (y_len rfl rfl sl61) ?_
  refine rw_p rfl rfl (y_move rfl) ?_
  refine rw_done ?_
  refine gn_sq ?_
  refine HW_block rfl ?_
  refine HW_loopK (ι := Nat) rfl (ks := [0, 1, 2, 6, 24, 25]) (.cons rfl (.cons rfl (.cons rfl (.cons rfl (.cons rfl (.cons rfl .nil)))))) (fun x => [(26, .int .i64 x)]) (fun x w => Mem w0 w No [(m1, .row 62 [.int .u8 0, .int .u8 0, .int .u8 0, .int .u8 0, .int .u8 0, .int .u8 0, .int .u8 0, .int .u8 0, .int .u8 0, .int .u8 0, .int .u8 0, .int .u8 0, .int .u8 0, .int .u8 0, .int .u8 0, .int .u8 0, .int .u8 0, .int .u8 0, .int .u8 0, .int .u8 0, .int .u8 0, .int .u8 0, .int .u8 0, .int .u8 0, .int .u8 0, .int .u8 0, .int .u8 0, .int .u8 0, .int .u8 0, .int .u8 0, .int .u8 0, .int .u8 0])] ∧ x ≤ j) (fun x => j - x) 0 (⟨hm, Nat.zero_le _⟩) ⟨rfl, trivial⟩ (fun x w hM => ?_)
  obtain ⟨hm, hk⟩ := hM
  refine HW_seq rfl ?_
  refine HW_text (.pure 0 .done) (by kernel_rfl) ?_
  refine rw_p rfl rfl (y_as (c := true) (y_lt rfl rfl) (decide_eq_true (by omega))) ?_
  refine rw_done ?_
  refine gn_sq ?_
  refine HW_seq rfl ?_
  refine HW_condT rfl rfl rfl ?_
  refine HW_skip rfl ?_
  refine gn_sq ?_
  refine HW_seq rfl ?_
  refine HW_block rfl ?_
  refine HW_seq rfl ?_
  obtain ⟨e, hi⟩ : ∃ y_, es[x]? = some y_ := ⟨_, List.getElem?_eq_getElem (by omega)⟩
  obtain ⟨qb, qo, rfl⟩ := hq.atI encE_len (by decide) hi
  obtain ⟨hi1, hi2⟩ := hes e (List.mem_of_getElem? hi)
  ·
    refine HW_text (.pure 0 (.pure 1 (.act 2 (.act 3 .done)))) (by kernel_rfl) ?_
    refine rw_p rfl rfl (y_index rfl rfl sl61 rfl (by omega) (by omega)) ?_
    refine rw_p rfl rfl (y_elA rfl ag23 (hq.ext0 hm.to).nt encE_len hi) ?_
    refine a_alloc rfl rfl z23 hm trivial fun m2 w hg_m2 hm hh => ?_
    refine a_store rfl rfl rfl rfl sz23 rfl hm 0 rfl rfl fun w hm => ?_
    refine rw_done ?_
    refine gn_sq ?_
    refine HW_seq rfl ?_
    by_cases hxj : x = j
    ·
      subst hxj
      rw [hj] at hi
      cases hi
      refine HW_text (.pure 0 (.pure 1 (.act 2 (.pure 3 .done)))) (by kernel_rfl) ?_
      refine rw_p rfl rfl (y_move rfl) ?_
      refine rw_p rfl rfl (y_loadA (s := 2) (vs := [_, _]) rfl ag23 (hm.nt 0 rfl) rfl) ?_
      refine a_call rfl rfl rfl go39 (C.as (v := .int .i64 2) (f_check D m Z _ (hZ.ext hm.to) hz ej.1 ej.2 hi1 hi2) (by rw [hjo]; rfl)) fun v w hR => ?_
      obtain ⟨rfl, hE⟩ := hR
      refine ⟨trivial, ?_⟩
      replace hm := hm.ext hE
      refine rw_p rfl rfl (y_assign rfl) ?_
      refine rw_done ?_
      refine gn_sq ?_
      refine HW_seq rfl ?_
      refine HW_text (.pure 0 (.pure 1 .done)) (by kernel_rfl) ?_
      refine rw_p rfl rfl (y_move rfl) ?_
      refine rw_p rfl rfl (y_as (c := true) (y_ne rfl rfl) (by decide)) ?_
      refine rw_done ?_
      refine gn_sq ?_
      refine HW_condT rfl rfl rfl ?_
      refine HW_seq rfl ?_
      refine HW_text (.pure 0 (.pure 1 (.act 2 (.pure 3 .done)))) (by kernel_rfl) ?_
      refine rw_p rfl rfl (y_build (cs := [_, _, _, _, _, _, _, _, _, _, _, _, _, _, _, _, _, _, _, _, _, _, _, _, _, _, _, _, _, _, _, _]) z62 ft62 rfl rfl rfl rfl rfl) ?_
      refine rw_p rfl rfl (y_move rfl) ?_
      refine a_store rfl rfl rfl rfl sz62 rfl hm 1 rfl rfl fun w hm => ?_
      refine rw_p rfl rfl (y_assign rfl) ?_
      refine rw_done ?_
      refine gn_sq ?_
      refine HW_ret rfl ?_
      refine gr_bl (gr_sq (gr_lp (gr_bl (gr_sq ?_))))
      refine toR (fin hret rfl (.cell rfl (run_loadVar_a (vs := [_, _, _, _, _, _, _, _, _, _, _, _, _, _, _, _, _, _, _, _, _, _, _, _, _, _, _, _, _, _, _, _]) ag62 (hm.get (k := 1) rfl) rfl) (.tmp rfl .nil)) .more ?_)
      exact ⟨rfl, hm.to⟩
    ·
      refine HW_text (.pure 0 (.pure 1 (.act 2 (.pure 3 .done)))) (by kernel_rfl) ?_
      refine rw_p rfl rfl (y_move rfl) ?_
      refine rw_p rfl rfl (y_loadA (s := 2) (vs := [_, _]) rfl ag23 (hm.nt 0 rfl) rfl) ?_
      refine a_call rfl rfl rfl go39 (C.as (v := .int .i64 0) (f_check D m Z _ (hZ.ext hm.to) hz e.1 e.2 hi1 hi2) (by rw [if_pos (hpr x e (by omega) hi)])) fun v w hR => ?_
      obtain ⟨rfl, hE⟩ := hR
      refine ⟨trivial, ?_⟩
      replace hm := hm.ext hE
      refine rw_p rfl rfl (y_assign rfl) ?_
      refine rw_done ?_
      refine gn_sq ?_
      refine HW_seq rfl ?_
      refine HW_text (.pure 0 (.pure 1 .done)) (by kernel_rfl) ?_
      refine rw_p rfl rfl (y_move rfl) ?_
      refine rw_p rfl rfl (y_as (c := false) (y_ne rfl rfl) (by decide)) ?_
      refine rw_done ?_
      refine gn_sq ?_
      refine HW_condF rfl rfl rfl ?_
      refine HW_skip rfl ?_
      refine gn_bl ?_
      refine gn_sq ?_
      refine HW_text (.pure 0 (.pure 1 .done)) (by kernel_rfl) ?_
      refine rw_p rfl rfl (y_add rfl rfl (i64w (by omega) (by omega))) ?_
      refine rw_p rfl rfl (y_move rfl) ?_
      refine rw_done ?_
      refine next (x + 1) (by omega) ⟨(hm.pick [1] rfl), by omega⟩ ⟨nx x, rfl, rfl, rfl, rfl, rfl, rfl, trivial⟩

theorem dig_cases (D : Pl.Dv) (n : Int) : ∀ es : List (Int × Int), (∀ e ∈ es, Pl.onD D e.1 e.2 = true) ∨ ∃ (j : Nat) (ej : Int × Int), es[j]? = some ej ∧ Pl.onD D ej.1 ej.2 = false ∧ ∀ k e, k < j → es[k]? = some e → Pl.onD D e.1 e.2 = true
  | [] => .inl (fun _ h => nomatch h)
  | x :: xs => by
    cases hx : Pl.onD D x.1 x.2 with
    | false => exact .inr ⟨0, x, rfl, hx, fun k e h => absurd h (Nat.not_lt_zero _)⟩
    | true =>
      rcases dig_cases D n xs with h | ⟨j, ej, h1, h2, h3⟩
      · refine .inl fun e he => ?_
        rcases List.mem_cons.1 he with h9 | h9
        · rw [h9]; exact hx
        · exact h e h9
      · refine .inr ⟨j + 1, ej, h1, h2, fun k e hk he => ?_⟩
        cases k with
        | zero => cases he; exact hx
        | succ k => exact h3 k e (by omega) he

set_option maxHeartbeats 6400000 in
theorem law_digests (u1 u2 : Int) (pb : Option Addr) (cb : Nat) (bs : List UInt8) (q : Option Addr) (cq : Nat) (es : List (Int × Int)) (n : Int) (w0 : World) (hbk : SB.ok w0 ⟨pb, cb, bs⟩) (hu1 : Pl.I64 u1) (hu2 : Pl.I64 u2) (hes : ∀ e ∈ es, Pl.I64 e.1 ∧ Pl.I64 e.2) (hq : Rd w0 q (es.flatMap encE)) (hlen : es.length ≤ 9223372036854775807) (hn2 : Pl.I64 n) : C Try.prog 7 [.agg ⟨[.int .i64 u1, .int .i64 u2, .slice pb bs.length cb]⟩, .slice q es.length cq, .int .i64 n] w0 fun v w' => v = .bool true ∧ Ext No w0 w' := by
  simp only [Pl.I64] at hu1 hu2
  have hbl := hbk.le
  have hbm := hbk.max
  simp only at hbl hbm
  refine C_of Try.func7 rfl rfl rfl fun κ hret hnorm => ?_
  have hm := Mem.start w0
  refine HW_seq rfl ?_
  refine HW_text (.act 0 (.pure 1 .done)) (by kernel_rfl) ?_
  refine a_box rfl rfl rfl rfl hm trivial fun m1 w hg_m1 hm hh => ?_
  refine rw_p rfl rfl (y_assign rfl) ?_
  refine rw_done ?_
  refine gn_sq ?_
  refine HW_seq rfl ?_
  by_cases hmk : Pl.right u1 u2 bs.length = true ∧ u1 * u2 ≤ 2000
  ·
    obtain ⟨hrt, h2k⟩ := hmk
    obtain ⟨h1, h2, h3, h4⟩ := Pl.right_of hrt
    obtain ⟨a, rfl⟩ : ∃ a : Nat, u1 = a := ⟨u1.toNat, by omega⟩
    obtain ⟨c, rfl⟩ : ∃ c : Nat, u2 = c := ⟨u2.toNat, by omega⟩
    have hac : (a : Int) * (c : Int) = ((c * a : Nat) : Int) := by rw [Nat.mul_comm]; norm_cast
    rw [hac] at h2k h3 h4
    have hca : 1 ≤ c * a := Nat.mul_pos (by omega) (by omega)
    have ha9 : a ≤ c * a := Nat.le_mul_of_pos_left _ (by omega)
    have hc9 : c ≤ c * a := Nat.le_mul_of_pos_right _ (by omega)
    have hMM : IntKind.i64.wrap ((a : Int) * (c : Int)) = ((c * a : Nat) : Int) := by rw [hac]; exact i64w (by omega) (by omega)
    refine HW_text (.pure 0 (.act 1 (.pure 2 (.pure 3 (.pure 4 (.pure 5 (.pure 6 .done))))))) (by kernel_rfl) ?_
    refine rw_p rfl rfl (y_loadA (s := 3) (vs := [_, _, _]) rfl ag29 (hm.nt 0 rfl) rfl) ?_
    refine a_call rfl rfl rfl go11 (mk_ok a c pb cb bs _ (hbk.ext hm.to) hrt (by omega)) fun v w hR => ?_
    obtain ⟨m, mr, Zw, Zr, rfl, hz, hy, hmc⟩ := hR
    refine ⟨trivial, ?_⟩
    replace hm := hm.callTZ hmc
    refine rw_p rfl rfl (y_move rfl) ?_
    refine rw_p rfl rfl (y_extract rfl rfl) ?_
    refine rw_p rfl rfl (y_extract rfl rfl) ?_
    refine rw_p rfl rfl (y_assign rfl) ?_
    refine rw_p rfl rfl (y_assign rfl) ?_
    refine rw_done ?_
    refine gn_sq ?_
    refine HW_seq rfl ?_
    refine HW_seq rfl ?_
    refine HW_text (.pure 0 (.pure 1 (.pure 2 (.pure 3 (.pure 4 (.pure 5 (.pure 6 .done))))))) (by kernel_rfl) ?_
    refine rw_p rfl rfl (y_move rfl) ?_
    refine rw_p rfl rfl (y_pnil rfl rfl pb31) ?_
    refine rw_p rfl rfl (y_move rfl) ?_
    refine rw_p rfl rfl (y_move rfl) ?_
    refine rw_p rfl rfl (y_len rfl rfl sl61) ?_
    refine rw_p rfl rfl (y_gt rfl rfl) ?_
    refine rw_p rfl rfl (y_pickF rfl rfl) ?_
    refine rw_done ?_
    refine gn_sq ?_
    refine HW_cond rfl rfl (fun hc0 => ?_) (fun hc0 => ?_)
    ·
      refine HW_seq rfl ?_
      refine HW_text (.act 0 (.pure 1 .done)) (by kernel_rfl) ?_
      refine a_call rfl rfl rfl go8 (law_alive _) fun v w hR => ?_
      obtain ⟨rfl, hE⟩ := hR
      refine ⟨trivial, ?_⟩
      replace hm := hm.ext hE
      refine rw_p rfl rfl (y_assign rfl) ?_
      refine rw_done ?_
      refine gn_sq ?_
      refine HW_ret rfl ?_
      refine gr_sq ?_
      refine toR (fin hret rfl (.tmp rfl .nil) .one ?_)
      exact ⟨rfl, hm.to⟩
    ·
      simp only [decide_eq_false_iff_not] at hc0
      have hl : es.length ≤ 10 := by omega
      refine HW_skip rfl ?_
      refine gn_sq ?_
      refine HW_seq rfl ?_
      refine HW_seq rfl ?_
      refine HW_text (.pure 0 (.pure 1 .done)) (by kernel_rfl) ?_
      refine rw_p rfl rfl (y_move rfl) ?_
      refine rw_p rfl rfl (y_pnil rfl rfl pb30) ?_
      refine rw_done ?_
      refine gn_sq ?_
      refine HW_condF rfl rfl rfl ?_
      refine HW_skip rfl ?_
      refine gn_sq ?_
      refine HW_seq rfl ?_
      rcases (show n < 1 ∨ 1 ≤ n ∧ _ from (Int.lt_or_le n 1).imp_right fun h => ⟨h, dig_cases (Pl.nDv a c bs) n es⟩) with hn | ⟨hn, hon | ⟨j, ej, hj, hjo, hpr⟩⟩
      ·
        refine HW_text (.pure 0 (.pure 1 (.pure 2 (.act 3 (.pure 4 (.pure 5 (.pure 6 (.act 7 (.act 8 (.pure 9 .done)))))))))) (by kernel_rfl) ?_
        refine rw_p rfl rfl (y_move rfl) ?_
        refine rw_p rfl rfl (y_move rfl) ?_
        refine rw_p rfl rfl (y_move rfl) ?_
        refine a_call rfl rfl rfl go26 (f_digestX m n q cq es _ hn) fun v w hR => ?_
        obtain ⟨rfl, hE⟩ := hR
        refine ⟨trivial, ?_⟩
        replace hm := hm.ext hE
        refine rw_p rfl rfl (y_move rfl) ?_
        refine rw_p rfl rfl (y_extract rfl rfl) ?_
        refine rw_p rfl rfl (y_extract rfl rfl) ?_
        refine a_alloc rfl rfl z62 hm trivial fun m2 w hg_m2 hm hh => ?_
        refine a_store rfl rfl rfl rfl (sz62.trans (congrArg some (lenB32 (List.length_replicate)).symm)) (oneB _) hm 0 rfl (by rw [Nat.ble_eq, lenB32 (List.length_replicate)]; exact Nat.le_refl 32) fun w hm => ?_
        rw [upds_z32 (List.length_replicate)] at hm
        refine rw_p rfl rfl (y_assign rfl) ?_
        refine rw_done ?_
        refine gn_sq ?_
        refine HW_seq rfl ?_
        refine HW_seq rfl ?_
        refine HW_text (.pure 0 (.pure 1 .done)) (by kernel_rfl) ?_
        refine rw_p rfl rfl (y_move rfl) ?_
        refine rw_p rfl rfl (y_as (c := true) (y_lt rfl rfl) (decide_eq_true hn)) ?_
        refine rw_done ?_
        refine gn_sq ?_
        refine HW_condT rfl rfl rfl ?_
        refine HW_seq rfl ?_
        refine HW_text (.act 0 (.pure 1 (.pure 2 (.pure 3 (.pure 4 (.pure 5 (.pure 6 (.pure 7 (.pure 8 (.pure 9 (.pure 10 .done))))))))))) (by kernel_rfl) ?_
        refine a_call rfl rfl rfl go8 (law_alive _) fun v w hR => ?_
        obtain ⟨rfl, hE⟩ := hR
        refine ⟨trivial, ?_⟩
        replace hm := hm.ext hE
        refine rw_p rfl rfl (y_move rfl) ?_
        refine rw_p rfl rfl (y_loadA (s := 32) (vs := (((List.replicate 32 (0 : UInt8))).flatMap encB)) rfl ag62 (hm.nt 0 rfl) (nthsB List.length_replicate)) ?_
        refine rw_p rfl rfl (y_build (cs := [_, _, _, _, _, _, _, _, _, _, _, _, _, _, _, _, _, _, _, _, _, _, _, _, _, _, _, _, _, _, _, _]) z62 ft62 rfl rfl rfl rfl rfl) ?_
        refine rw_p rfl rfl (y_as (c := true) (y_eqF rfl rfl fl62 (fitB (n := 32) List.length_replicate) rfl) (by exact (eqLB (List.replicate 32 (0 : UInt8)) (List.replicate 32 (0 : UInt8))).trans (decide_eq_true rfl))) ?_
        refine rw_p rfl rfl (y_pickT rfl rfl) ?_
        refine rw_p rfl rfl (y_move rfl) ?_
        refine rw_p rfl rfl (y_move rfl) ?_
        refine rw_p rfl rfl (y_as (c := true) (y_eq rfl rfl) (by decide)) ?_
        refine rw_p rfl rfl (y_pickT rfl rfl) ?_
        refine rw_p rfl rfl (y_assign rfl) ?_
        refine rw_done ?_
        refine gn_sq ?_
        refine HW_ret rfl ?_
        refine gr_sq ?_
        refine toR (fin hret rfl (.tmp rfl .nil) .one ?_)
        exact ⟨rfl, hm.to⟩
      ·
        have hdl := Pl.sha_len (es.flatMap fun e => Pl.rdB (Pl.nDv a c bs) e.1 e.2)
        obtain ⟨dg, hdg⟩ : ∃ d, Pl.sha (es.flatMap fun e => Pl.rdB (Pl.nDv a c bs) e.1 e.2) = d := ⟨_, rfl⟩
        rw [hdg] at hdl
        refine HW_text (.pure 0 (.pure 1 (.pure 2 (.act 3 (.pure 4 (.pure 5 (.pure 6 (.act 7 (.act 8 (.pure 9 .done)))))))))) (by kernel_rfl) ?_
        refine rw_p rfl rfl (y_move rfl) ?_
        refine rw_p rfl rfl (y_move rfl) ?_
        refine rw_p rfl rfl (y_move rfl) ?_
        refine a_call rfl rfl rfl go26 (C.as (v := .tuple ⟨[.agg ⟨dg.flatMap encB⟩, .int .i64 0]⟩) (f_digest (Pl.nDv a c bs) m _ _ (OwnZ.mid (A := [_]) hm.ownZ) hz n q cq es hn hn2 hes (hq.ext0 hm.to) hl hon rfl) (by rw [hdg])) fun v w hR => ?_
        obtain ⟨rfl, hE⟩ := hR
        refine ⟨trivial, ?_⟩
        replace hm := hm.ext hE
        refine rw_p rfl rfl (y_move rfl) ?_
        refine rw_p rfl rfl (y_extract rfl rfl) ?_
        refine rw_p rfl rfl (y_extract rfl rfl) ?_
        refine a_alloc rfl rfl z62 hm trivial fun m2 w hg_m2 hm hh => ?_
        refine a_store rfl rfl rfl rfl (sz62.trans (congrArg some (lenB32 hdl).symm)) (oneB _) hm 0 rfl (by rw [Nat.ble_eq, lenB32 hdl]; exact Nat.le_refl 32) fun w hm => ?_
        rw [upds_z32 hdl] at hm
        refine rw_p rfl rfl (y_assign rfl) ?_
        refine rw_done ?_
        refine gn_sq ?_
        refine HW_seq rfl ?_
        refine HW_seq rfl ?_
        refine HW_text (.pure 0 (.pure 1 .done)) (by kernel_rfl) ?_
        refine rw_p rfl rfl (y_move rfl) ?_
        refine rw_p rfl rfl (y_as (c := false) (y_lt rfl rfl) (decide_eq_false (by omega))) ?_
        refine rw_done ?_
        refine gn_sq ?_
        refine HW_condF rfl rfl rfl ?_
        refine HW_skip rfl ?_
        refine gn_sq ?_
        refine HW_seq rfl ?_
        refine HW_text (.pure 0 .done) (by kernel_rfl) ?_
        refine rw_p rfl rfl (y_assign rfl) ?_
        replace hm := hm.gapIn
        have ha_o := Acc.nil 5 1 none 0
        refine rw_done ?_
        refine gn_sq ?_
        refine HW_seq rfl ?_
        refine HW_seq rfl ?_
        refine HW_text (.pure 0 (.pure 1 (.pure 2 .done))) (by kernel_rfl) ?_
        refine rw_p rfl rfl (y_move rfl) ?_
        refine rw_p rfl rfl (y_len rfl rfl sl61) ?_
        refine rw_p rfl rfl (y_move rfl) ?_
        refine rw_done ?_
        refine gn_sq ?_
        refine HW_block rfl ?_
        refine HW_loopK (ι := Nat × Ow) rfl (ks := [1, 2, 8, 9, 10, 52, 53]) (.cons rfl (.cons rfl (.cons rfl (.cons rfl (.cons rfl (.cons rfl (.cons rfl .nil))))))) (fun x => [(54, .int .i64 x.1), (11, .slice x.2.p x.2.n x.2.cap)]) (fun x w => Mem w0 w No ((x.2.g, x.2.b) :: (m2, .row 62 (dg.flatMap encB)) :: (m1, .row 29 [.int .i64 (a : Int), .int .i64 (c : Int), .slice pb bs.length cb]) :: (Zw ++ Zr)) ∧ Acc 5 1 x.2.p x.2.n x.2.cap (((es.take x.1).flatMap fun e => Pl.rdB (Pl.nDv a c bs) e.1 e.2).flatMap encB) x.2.g x.2.b ∧ x.1 ≤ es.length) (fun x => es.length - x.1) (0, ⟨none, 0, 0, 0, .gap⟩) (⟨(hm.pickT [0, 1, 2] 3 rfl), ha_o, Nat.zero_le _⟩) ⟨rfl, rfl, trivial⟩ (fun x w hM => ?_)
        obtain ⟨hm, ha_o, hk⟩ := hM
        refine HW_seq rfl ?_
        refine HW_text (.pure 0 .done) (by kernel_rfl) ?_
        refine rw_p rfl rfl (y_lt rfl rfl) ?_
        refine rw_done ?_
        refine gn_sq ?_
        refine HW_seq rfl ?_
        refine HW_cond rfl rfl (fun hc3 => ?_) (fun hc3 => ?_)
        ·
          simp only [decide_eq_true_eq] at hc3
          obtain ⟨e, hi⟩ : ∃ y_, es[x.1]? = some y_ := ⟨_, List.getElem?_eq_getElem (by omega)⟩
          obtain ⟨qb, qo, rfl⟩ := hq.atI encE_len (by decide) hi
          obtain ⟨hi1, hi2⟩ := hes e (List.mem_of_getElem? hi)
          have hn9 := ha_o.lenB
          have hbd := Pl.flat_bnd (fun e : Int × Int => Pl.rdB (Pl.nDv a c bs) e.1 e.2) (fun e => rdB_len hz.ok e.1 e.2) (es.take x.1)
          have htl : (es.take x.1).length ≤ 10 := by rw [List.length_take]; omega
          refine HW_skip rfl ?_
          refine gn_sq ?_
          refine HW_seq rfl ?_
          refine HW_block rfl ?_
          refine HW_seq rfl ?_
          refine HW_text (.pure 0 (.pure 1 (.act 2 (.act 3 .done)))) (by kernel_rfl) ?_
          refine rw_p rfl rfl (y_index rfl rfl sl61 rfl (by omega) (by omega)) ?_
          refine rw_p rfl rfl (y_elA rfl ag23 (hq.ext0 hm.to).nt encE_len hi) ?_
          refine a_alloc rfl rfl z23 hm trivial fun m3 w hg_m3 hm hh => ?_
          refine a_store rfl rfl rfl rfl sz23 rfl hm 0 rfl rfl fun w hm => ?_
          refine rw_done ?_
          refine gn_sq ?_
          refine HW_seq rfl ?_
          refine HW_seq rfl ?_
          refine HW_text (.pure 0 (.pure 1 (.act 2 (.pure 3 .done)))) (by kernel_rfl) ?_
          refine rw_p rfl rfl (y_move rfl) ?_
          refine rw_p rfl rfl (y_loadA (s := 2) (vs := [_, _]) rfl ag23 (hm.nt 0 rfl) rfl) ?_
          refine a_call rfl rfl rfl go19 (C.as (v := .bool true) (r20_on (Pl.nDv a c bs) mr _ _ (OwnZ.end (A := [_, _, _, _]) hm.ownZ) hy e.1 e.2 hi1 hi2) (by rw [hon e (List.mem_of_getElem? hi)])) fun v w hR => ?_
          obtain ⟨rfl, hE⟩ := hR
          refine ⟨trivial, ?_⟩
          replace hm := hm.ext hE
          refine rw_p rfl rfl (y_not rfl) ?_
          refine rw_done ?_
          refine gn_sq ?_
          refine HW_condF rfl rfl rfl ?_
          refine HW_skip rfl ?_
          refine gn_sq ?_
          refine HW_seq rfl ?_
          refine HW_text (.pure 0 (.pure 1 (.act 2 (.pure 3 (.pure 4 (.pure 5 (.pure 6 (.pure 7 .done)))))))) (by kernel_rfl) ?_
          refine rw_p rfl rfl (y_move rfl) ?_
          refine rw_p rfl rfl (y_loadA (s := 2) (vs := [_, _]) rfl ag23 (hm.nt 0 rfl) rfl) ?_
          refine a_call rfl rfl rfl go17 (r20_read (Pl.nDv a c bs) mr _ _ (OwnZ.end (A := [_, _, _, _]) hm.ownZ) hy e.1 e.2 hi1 hi2 (Nat.zero_le _)) fun v w hR => ?_
          obtain ⟨p_t, cap_t, rfl, hR_t, hE⟩ := hR
          refine ⟨trivial, ?_⟩
          replace hm := hm.ext hE
          have hrl := rdB_len hz.ok e.1 e.2
          refine rw_p rfl rfl (y_move rfl) ?_
          refine rw_p rfl rfl (y_extract rfl rfl) ?_
          refine rw_p rfl rfl (y_extract rfl rfl) ?_
          refine rw_p rfl rfl (y_assign rfl) ?_
          refine rw_p rfl rfl (y_assign rfl) ?_
          refine rw_done ?_
          refine gn_sq ?_
          refine HW_text (.pure 0 (.pure 1 (.act 2 (.pure 3 .done)))) (by kernel_rfl) ?_
          refine rw_p rfl rfl (y_move rfl) ?_
          refine rw_p rfl rfl (y_move rfl) ?_
          refine a_append rfl rfl rfl rfl rfl rfl sl27 sl27 z5 rfl (oneB _) (hR_t) (lenB _) ha_o hm 1 rfl (by omega) (by omega) fun p_o cap_o g_o b_o w ha_o hm => ?_
          refine rw_p rfl rfl (y_assign rfl) ?_
          refine rw_done ?_
          refine gn_bl ?_
          refine gn_sq ?_
          refine HW_text (.pure 0 (.pure 1 .done)) (by kernel_rfl) ?_
          refine rw_p rfl rfl (y_add rfl rfl (i64w (by omega) (by omega))) ?_
          refine rw_p rfl rfl (y_move rfl) ?_
          refine rw_done ?_
          refine next (x.1 + 1, ⟨p_o, _, cap_o, g_o, b_o⟩) (by simp only; omega) ⟨(hm.pickT [1, 2, 3] 4 rfl), ha_o.to ?_, by simp only; omega⟩ ⟨nx x.1, rfl, rfl, rfl, rfl, rfl, rfl, rfl, rfl, trivial⟩
          simp only
          rw [Pl.flat_snoc _ hi, List.flatMap_append]
        ·
          simp only [decide_eq_false_iff_not] at hc3
          have hke : x.1 = es.length := by omega
          rw [hke, List.take_length] at ha_o
          have hn9 := ha_o.lenB
          have hbd := Pl.flat_bnd (fun e : Int × Int => Pl.rdB (Pl.nDv a c bs) e.1 e.2) (fun e => rdB_len hz.ok e.1 e.2) es
          refine HW_exit rfl ?_
          refine gx_sq (gx_lp ?_)
          refine gx_here ?_
          refine gn_sq ?_
          refine HW_seq rfl ?_
          refine HW_text (.pure 0 (.pure 1 (.act 2 (.pure 3 (.pure 4 (.pure 5 (.act 6 (.act 7 (.pure 8 .done))))))))) (by kernel_rfl) ?_
          refine rw_p rfl rfl (y_move rfl) ?_
          refine rw_p rfl rfl (y_move rfl) ?_
          refine a_call rfl rfl rfl go26 (f_digestN n q cq es _) fun v w hR => ?_
          obtain ⟨rfl, hE⟩ := hR
          refine ⟨trivial, ?_⟩
          replace hm := hm.ext hE
          refine rw_p rfl rfl (y_move rfl) ?_
          refine rw_p rfl rfl (y_extract rfl rfl) ?_
          refine rw_p rfl rfl (y_extract rfl rfl) ?_
          refine a_alloc rfl rfl z62 hm trivial fun m3 w hg_m3 hm hh => ?_
          refine a_store rfl rfl rfl rfl (sz62.trans (congrArg some (lenB32 (List.length_replicate)).symm)) (oneB _) hm 0 rfl (by rw [Nat.ble_eq, lenB32 (List.length_replicate)]; exact Nat.le_refl 32) fun w hm => ?_
          rw [upds_z32 (List.length_replicate)] at hm
          refine rw_p rfl rfl (y_assign rfl) ?_
          refine rw_done ?_
          refine gn_sq ?_
          refine HW_seq rfl ?_
          refine HW_draw (.act 0 (.pure 1 (.pure 2 (.pure 3 (.pure 4 (.pure 5 (.pure 6 (.pure 7 (.act 8 (.pure 9 (.pure 10 (.pure 11 (.pure 12 (.pure 13 (.pure 14 (.pure 15 .done)))))))))))))))) No mix (by kernel_rfl) hm fun w hw hm0 hh => ?_
          have hm := hm0
          refine a_call rfl rfl rfl go8 (law_alive _) fun v w hR => ?_
          obtain ⟨rfl, hE⟩ := hR
          refine ⟨hh.ext hE, ?_⟩
          replace hm := hm.ext hE
          replace hh := hh.ext hE
          refine rw_p rfl rfl (y_move rfl) ?_
          refine rw_p rfl rfl (y_move rfl) ?_
          refine rw_p rfl rfl (y_as (c := true) (y_eq rfl rfl) (by decide)) ?_
          refine rw_p rfl rfl (y_pickT rfl rfl) ?_
          refine rw_p rfl rfl (y_move rfl) ?_
          refine rw_p rfl rfl (y_loadA (s := 32) (vs := ((dg).flatMap encB)) rfl ag62 (hm0.nd 2 rfl id) (nthsB hdl)) ?_
          refine rw_p rfl rfl (y_move rfl) ?_
          refine a_call rfl rfl rfl go27 (C.as (v := .agg ⟨dg.flatMap encB⟩) (C.eqv (r2_of x.2.p x.2.cap (es.flatMap fun e => Pl.rdB (Pl.nDv a c bs) e.1 e.2) _ (ha_o.rd hm 1 rfl) (by omega)) (by rw [← hn9])) (by rw [hdg])) fun v w hR => ?_
          obtain ⟨rfl, hE⟩ := hR
          refine ⟨hh.ext hE, ?_⟩
          replace hm := hm.ext hE
          replace hh := hh.ext hE
          refine rw_p rfl rfl (y_as (c := true) (y_eqF rfl rfl fl62 (fitB (n := 32) hdl) (fitB (n := 32) hdl)) (by rw [eqLB]; exact decide_eq_true rfl)) ?_
          refine rw_p rfl rfl (y_pickT rfl rfl) ?_
          refine rw_p rfl rfl (y_move rfl) ?_
          refine rw_p rfl rfl (y_move rfl) ?_
          refine rw_p rfl rfl (y_as (c := true) (y_eq rfl rfl) (by decide)) ?_
          refine rw_p rfl rfl (y_pickT rfl rfl) ?_
          refine rw_p rfl rfl (y_assign rfl) ?_
          refine rw_done ?_
          refine gn_sq ?_
          refine HW_ret rfl ?_
          refine toR (fin hret rfl (.tmp rfl .nil) .one ?_)
          exact ⟨rfl, hm.to⟩
      ·
        have hjl := (List.getElem?_eq_some_iff.1 hj).1
        refine HW_text (.pure 0 (.pure 1 (.pure 2 (.act 3 (.pure 4 (.pure 5 (.pure 6 (.act 7 (.act 8 (.pure 9 .done)))))))))) (by kernel_rfl) ?_
        refine rw_p rfl rfl (y_move rfl) ?_
        refine rw_p rfl rfl (y_move rfl) ?_
        refine rw_p rfl rfl (y_move rfl) ?_
        refine a_call rfl rfl rfl go26 (f_digestF (Pl.nDv a c bs) m _ _ (OwnZ.mid (A := [_]) hm.ownZ) hz n q cq es hn hn2 hes (hq.ext0 hm.to) hl j ej hj hjo hpr) fun v w hR => ?_
        obtain ⟨rfl, hE⟩ := hR
        refine ⟨trivial, ?_⟩
        replace hm := hm.ext hE
        refine rw_p rfl rfl (y_move rfl) ?_
        refine rw_p rfl rfl (y_extract rfl rfl) ?_
        refine rw_p rfl rfl (y_extract rfl rfl) ?_
        refine a_alloc rfl rfl z62 hm trivial fun m2 w hg_m2 hm hh => ?_
        refine a_store rfl rfl rfl rfl (sz62.trans (congrArg some (lenB32 (List.length_replicate)).symm)) (oneB _) hm 0 rfl (by rw [Nat.ble_eq, lenB32 (List.length_replicate)]; exact Nat.le_refl 32) fun w hm => ?_
        rw [upds_z32 (List.length_replicate)] at hm
        refine rw_p rfl rfl (y_assign rfl) ?_
        refine rw_done ?_
        refine gn_sq ?_
        refine HW_seq rfl ?_
        refine HW_seq rfl ?_
        refine HW_text (.pure 0 (.pure 1 .done)) (by kernel_rfl) ?_
        refine rw_p rfl rfl (y_move rfl) ?_
        refine rw_p rfl rfl (y_as (c := false) (y_lt rfl rfl) (decide_eq_false (by omega))) ?_
        refine rw_done ?_
        refine gn_sq ?_
        refine HW_condF rfl rfl rfl ?_
        refine HW_skip rfl ?_
        refine gn_sq ?_
        refine HW_seq rfl ?_
        refine HW_text (.pure 0 .done) (by kernel_rfl) ?_
        refine rw_p rfl rfl (y_assign rfl) ?_
        replace hm := hm.gapIn
        have ha_o := Acc.nil 5 1 none 0
        refine rw_done ?_
        refine gn_sq ?_
        refine HW_seq rfl ?_
        refine HW_seq rfl ?_
        refine HW_text (.pure 0 (.pure 1 (.pure 2 .done))) (by kernel_rfl) ?_
        refine rw_p rfl rfl (y_move rfl) ?_
        refine rw_p rfl rfl (y_len rfl rfl sl61) ?_
        refine rw_p rfl rfl (y_move rfl) ?_
        refine rw_done ?_
        refine gn_sq ?_
        refine HW_block rfl ?_
        refine HW_loopK (ι := Nat × Ow) rfl (ks := [1, 2, 8, 9, 10, 52, 53]) (.cons rfl (.cons rfl (.cons rfl (.cons rfl (.cons rfl (.cons rfl (.cons rfl .nil))))))) (fun x => [(54, .int .i64 x.1), (11, .slice x.2.p x.2.n x.2.cap)]) (fun x w => Mem w0 w No ((x.2.g, x.2.b) :: (m2, .row 62 ((List.replicate 32 (0 : UInt8)).flatMap encB)) :: (m1, .row 29 [.int .i64 (a : Int), .int .i64 (c : Int), .slice pb bs.length cb]) :: (Zw ++ Zr)) ∧ Acc 5 1 x.2.p x.2.n x.2.cap (((es.take x.1).flatMap fun e => Pl.rdB (Pl.nDv a c bs) e.1 e.2).flatMap encB) x.2.g x.2.b ∧ x.1 ≤ j) (fun x => j - x.1) (0, ⟨none, 0, 0, 0, .gap⟩) (⟨(hm.pickT [0, 1, 2] 3 rfl), ha_o, Nat.zero_le _⟩) ⟨rfl, rfl, trivial⟩ (fun x w hM => ?_)
        obtain ⟨hm, ha_o, hk⟩ := hM
        refine HW_seq rfl ?_
        refine HW_text (.pure 0 .done) (by kernel_rfl) ?_
        refine rw_p rfl rfl (y_as (c := true) (y_lt rfl rfl) (decide_eq_true (by omega))) ?_
        refine rw_done ?_
        refine gn_sq ?_
        refine HW_seq rfl ?_
        refine HW_condT rfl rfl rfl ?_
        refine HW_skip rfl ?_
        refine gn_sq ?_
        refine HW_seq rfl ?_
        refine HW_block rfl ?_
        refine HW_seq rfl ?_
        obtain ⟨e, hi⟩ : ∃ y_, es[x.1]? = some y_ := ⟨_, List.getElem?_eq_getElem (by omega)⟩
        obtain ⟨qb, qo, rfl⟩ := hq.atI encE_len (by decide) hi
        obtain ⟨hi1, hi2⟩ := hes e (List.mem_of_getElem? hi)
        have hn9 := ha_o.lenB
        have hbd := Pl.flat_bnd (fun e : Int × Int => Pl.rdB (Pl.nDv a c bs) e.1 e.2) (fun e => rdB_len hz.ok e.1 e.2) (es.take x.1)
        have htl : (es.take x.1).length ≤ 10 := by rw [List.length_take]; omega
        by_cases hxj : x.1 = j
        ·
          have hee : ej = e := by have h9 := hi; rw [hxj, hj] at h9; exact Option.some.inj h9
          have hjo2 : Pl.onD (Pl.nDv a c bs) e.1 e.2 = false := hee ▸ hjo
          refine HW_text (.pure 0 (.pure 1 (.act 2 (.act 3 .done)))) (by kernel_rfl) ?_
          refine rw_p rfl rfl (y_index rfl rfl sl61 rfl (by omega) (by omega)) ?_
          refine rw_p rfl rfl (y_elA rfl ag23 (hq.ext0 hm.to).nt encE_len hi) ?_
          refine a_alloc rfl rfl z23 hm trivial fun m3 w hg_m3 hm hh => ?_
          refine a_store rfl rfl rfl rfl sz23 rfl hm 0 rfl rfl fun w hm => ?_
          refine rw_done ?_
          refine gn_sq ?_
          refine HW_seq rfl ?_
          refine HW_seq rfl ?_
          refine HW_text (.pure 0 (.pure 1 (.act 2 (.pure 3 .done)))) (by kernel_rfl) ?_
          refine rw_p rfl rfl (y_move rfl) ?_
          refine rw_p rfl rfl (y_loadA (s := 2) (vs := [_, _]) rfl ag23 (hm.nt 0 rfl) rfl) ?_
          refine a_call rfl rfl rfl go19 (C.as (v := .bool false) (r20_on (Pl.nDv a c bs) mr _ _ (OwnZ.end (A := [_, _, _, _]) hm.ownZ) hy e.1 e.2 hi1 hi2) (by rw [hjo2])) fun v w hR => ?_
          obtain ⟨rfl, hE⟩ := hR
          refine ⟨trivial, ?_⟩
          replace hm := hm.ext hE
          refine rw_p rfl rfl (y_not rfl) ?_
          refine rw_done ?_
          refine gn_sq ?_
          refine HW_condT rfl rfl rfl ?_
          refine HW_seq rfl ?_
          refine HW_text (.act 0 (.pure 1 (.pure 2 (.pure 3 (.pure 4 (.pure 5 (.pure 6 (.pure 7 (.pure 8 (.pure 9 (.pure 10 .done))))))))))) (by kernel_rfl) ?_
          refine a_call rfl rfl rfl go8 (law_alive _) fun v w hR => ?_
          obtain ⟨rfl, hE⟩ := hR
          refine ⟨trivial, ?_⟩
          replace hm := hm.ext hE
          refine rw_p rfl rfl (y_move rfl) ?_
          refine rw_p rfl rfl (y_loadA (s := 32) (vs := (((List.replicate 32 (0 : UInt8))).flatMap encB)) rfl ag62 (hm.nt 2 rfl) (nthsB List.length_replicate)) ?_
          refine rw_p rfl rfl (y_build (cs := [_, _, _, _, _, _, _, _, _, _, _, _, _, _, _, _, _, _, _, _, _, _, _, _, _, _, _, _, _, _, _, _]) z62 ft62 rfl rfl rfl rfl rfl) ?_
          refine rw_p rfl rfl (y_as (c := true) (y_eqF rfl rfl fl62 (fitB (n := 32) List.length_replicate) rfl) (by exact (eqLB (List.replicate 32 (0 : UInt8)) (List.replicate 32 (0 : UInt8))).trans (decide_eq_true rfl))) ?_
          refine rw_p rfl rfl (y_pickT rfl rfl) ?_
          refine rw_p rfl rfl (y_move rfl) ?_
          refine rw_p rfl rfl (y_move rfl) ?_
          refine rw_p rfl rfl (y_as (c := true) (y_eq rfl rfl) (by decide)) ?_
          refine rw_p rfl rfl (y_pickT rfl rfl) ?_
          refine rw_p rfl rfl (y_assign rfl) ?_
          refine rw_done ?_
          refine gn_sq ?_
          refine HW_ret rfl ?_
          refine gr_sq (gr_bl (gr_sq (gr_lp (gr_bl (gr_sq ?_)))))
          refine toR (fin hret rfl (.tmp rfl .nil) .one ?_)
          exact ⟨rfl, hm.to⟩
        ·
          refine HW_text (.pure 0 (.pure 1 (.act 2 (.act 3 .done)))) (by kernel_rfl) ?_
          refine rw_p rfl rfl (y_index rfl rfl sl61 rfl (by omega) (by omega)) ?_
          refine rw_p rfl rfl (y_elA rfl ag23 (hq.ext0 hm.to).nt encE_len hi) ?_
          refine a_alloc rfl rfl z23 hm trivial fun m3 w hg_m3 hm hh => ?_
          refine a_store rfl rfl rfl rfl sz23 rfl hm 0 rfl rfl fun w hm => ?_
          refine rw_done ?_
          refine gn_sq ?_
          refine HW_seq rfl ?_
          refine HW_seq rfl ?_
          refine HW_text (.pure 0 (.pure 1 (.act 2 (.pure 3 .done)))) (by kernel_rfl) ?_
          refine rw_p rfl rfl (y_move rfl) ?_
          refine rw_p rfl rfl (y_loadA (s := 2) (vs := [_, _]) rfl ag23 (hm.nt 0 rfl) rfl) ?_
          refine a_call rfl rfl rfl go19 (C.as (v := .bool true) (r20_on (Pl.nDv a c bs) mr _ _ (OwnZ.end (A := [_, _, _, _]) hm.ownZ) hy e.1 e.2 hi1 hi2) (by rw [hpr x.1 e (by omega) hi])) fun v w hR => ?_
          obtain ⟨rfl, hE⟩ := hR
          refine ⟨trivial, ?_⟩
          replace hm := hm.ext hE
          refine rw_p rfl rfl (y_not rfl) ?_
          refine rw_done ?_
          refine gn_sq ?_
          refine HW_condF rfl rfl rfl ?_
          refine HW_skip rfl ?_
          refine gn_sq ?_
          refine HW_seq rfl ?_
          refine HW_text (.pure 0 (.pure 1 (.act 2 (.pure 3 (.pure 4 (.pure 5 (.pure 6 (.pure 7 .done)))))))) (by kernel_rfl) ?_
          refine rw_p rfl rfl (y_move rfl) ?_
          refine rw_p rfl rfl (y_loadA (s := 2) (vs := [_, _]) rfl ag23 (hm.nt 0 rfl) rfl) ?_
          refine a_call rfl rfl rfl go17 (r20_read (Pl.nDv a c bs) mr _ _ (OwnZ.end (A := [_, _, _, _]) hm.ownZ) hy e.1 e.2 hi1 hi2 (Nat.zero_le _)) fun v w hR => ?_
          obtain ⟨p_t, cap_t, rfl, hR_t, hE⟩ := hR
          refine ⟨trivial, ?_⟩
          replace hm := hm.ext hE
          have hrl := rdB_len hz.ok e.1 e.2
          refine rw_p rfl rfl (y_move rfl) ?_
          refine rw_p rfl rfl (y_extract rfl rfl) ?_
          refine rw_p rfl rfl (y_extract rfl rfl) ?_
          refine rw_p rfl rfl (y_assign rfl) ?_
          refine rw_p rfl rfl (y_assign rfl) ?_
          refine rw_done ?_
          refine gn_sq ?_
          refine HW_text (.pure 0 (.pure 1 (.act 2 (.pure 3 .done)))) (by kernel_rfl) ?_
          refine rw_p rfl rfl (y_move rfl) ?_
          refine rw_p rfl rfl (y_move rfl) ?_
          refine a_append rfl rfl rfl rfl rfl rfl sl27 sl27 z5 rfl (oneB _) (hR_t) (lenB _) ha_o hm 1 rfl (by omega) (by omega) fun p_o cap_o g_o b_o w ha_o hm => ?_
          refine rw_p rfl rfl (y_assign rfl) ?_
          refine rw_done ?_
          refine gn_bl ?_
          refine gn_sq ?_
          refine HW_text (.pure 0 (.pure 1 .done)) (by kernel_rfl) ?_
          refine rw_p rfl rfl (y_add rfl rfl (i64w (by omega) (by omega))) ?_
          refine rw_p rfl rfl (y_move rfl) ?_
          refine rw_done ?_
          refine next (x.1 + 1, ⟨p_o, _, cap_o, g_o, b_o⟩) (by simp only; omega) ⟨(hm.pickT [1, 2, 3] 4 rfl), ha_o.to ?_, by simp only; omega⟩ ⟨nx x.1, rfl, rfl, rfl, rfl, rfl, rfl, rfl, rfl, trivial⟩
          simp only
          rw [Pl.flat_snoc _ hi, List.flatMap_append]
  ·
    refine HW_text (.pure 0 (.act 1 (.pure 2 (.pure 3 (.pure 4 (.pure 5 (.pure 6 .done))))))) (by kernel_rfl) ?_
    refine rw_p rfl rfl (y_loadA (s := 3) (vs := [_, _, _]) rfl ag29 (hm.nt 0 rfl) rfl) ?_
    refine a_call rfl rfl rfl go11 (mk_bad u1 u2 pb cb bs _ (hbk.ext hm.to) hu1 hu2 hmk) fun v w hR => ?_
    obtain ⟨rfl, hE⟩ := hR
    refine ⟨trivial, ?_⟩
    replace hm := hm.ext hE
    refine rw_p rfl rfl (y_move rfl) ?_
    refine rw_p rfl rfl (y_extract rfl rfl) ?_
    refine rw_p rfl rfl (y_extract rfl rfl) ?_
    refine rw_p rfl rfl (y_assign rfl) ?_
    refine rw_p rfl rfl (y_assign rfl) ?_
    refine rw_done ?_
    refine gn_sq ?_
    refine HW_seq rfl ?_
    refine HW_seq rfl ?_
    refine HW_text (.pure 0 (.pure 1 (.pure 2 (.pure 3 (.pure 4 (.pure 5 (.pure 6 .done))))))) (by kernel_rfl) ?_
    refine rw_p rfl rfl (y_move rfl) ?_
    refine rw_p rfl rfl (y_pnil rfl rfl pb31) ?_
    refine rw_p rfl rfl (y_move rfl) ?_
    refine rw_gf rfl rfl (by decide) rfl ?_
    refine rw_gf rfl rfl (by decide) rfl ?_
    refine rw_gf rfl rfl (by decide) rfl ?_
    refine rw_p rfl rfl (y_pickT rfl rfl) ?_
    refine rw_done ?_
    refine gn_sq ?_
    refine HW_condT rfl rfl rfl ?_
    refine HW_seq rfl ?_
    refine HW_text (.act 0 (.pure 1 .done)) (by kernel_rfl) ?_
    refine a_call rfl rfl rfl go8 (law_alive _) fun v w hR => ?_
    obtain ⟨rfl, hE⟩ := hR
    refine ⟨trivial, ?_⟩
    replace hm := hm.ext hE
    refine rw_p rfl rfl (y_assign rfl) ?_
    refine rw_done ?_
    refine gn_sq ?_
    refine HW_ret rfl ?_
    refine gr_sq ?_
    refine toR (fin hret rfl (.tmp rfl .nil) .one ?_)
    exact ⟨rfl, hm.to⟩

end Go.Proofs.Ytkllojjpaelmhaa
