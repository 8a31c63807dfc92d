/- Contracts of functions of the program: what each returns. Conditions: the hypotheses of each theorem. -/
import Derived.Test.YthailbggeafckaaJnJ
import Derived.Test.YthailbggeafckaaCyJ
set_option linter.unusedVariables false
set_option linter.unusedSimpArgs false
namespace Go.Proofs.Ythailbggeafckaa
open Go Go.Cx

theorem ag31 : aggS Try.prog 31 = some 3 := by kernel_rfl
theorem fo31_2 : fldO Try.prog 31 2 = some 2 := by kernel_rfl
theorem sl61 : slcO Try.prog 61 = some (31, 3, 40) := by kernel_rfl
theorem sz31 : szO Try.prog 31 = some 3 := by kernel_rfl
theorem z31 : zer Try.prog 31 = some [.int .i64 0, .int .i64 0, .slice none 0 0] := by kernel_rfl

structure CrS where
  i : Nat
  sp : Option Addr
  sc : Nat
  sg : Nat
  sb : Blk
  kn : List RcV
  D : Pl.Dv
  S : Pl.Jn
  Z : List (Nat × Blk)
  jp : Option Addr
  jc : Nat
  jg : Nat
  jb : Blk
  zp : Option Addr
  zc : Nat
  zg : Nat
  zb : Blk
  nr : Pl.Rc
  np : Option Addr
  nc : Nat
theorem jopen_len {D : Pl.Dv} (h : Pl.okDv D) (f N : Nat) (k : Int) : (Pl.jopen D f N k).la.bs.length ≤ 1048576 := by
  show (Pl.bestC ((Pl.jrecs D f N).filter fun r => decide (r.id = k))).bs.length ≤ _
  by_cases h0 : ((Pl.jrecs D f N).filter fun r => decide (r.id = k)) = []
  · rw [h0]; decide
  · exact Pl.jrecs_len h (List.mem_filter.1 (Pl.bestC_mem h0)).1
theorem rsame_eq {a b : Pl.Rc} (h : Pl.rsame a b = true) : a = b := by
  unfold Pl.rsame at h
  simp only [Bool.and_eq_true, decide_eq_true_eq] at h
  cases a; cases b
  simp only at h
  obtain ⟨⟨⟨⟨rfl, rfl⟩, rfl⟩, rfl⟩, rfl⟩ := h
  rfl
theorem any_same {kn : List RcV} {x : Pl.Rc} (h : kn.any (fun y => Pl.rsame y.rc x) = true) : x ∈ kn.map RcV.rc := by
  obtain ⟨y, hy, he⟩ := List.any_eq_true.1 h
  rw [← rsame_eq he]
  exact List.mem_map_of_mem hy
theorem jla_eq {S T : Pl.Jn} (h1 : T.has = S.has) (h2 : T.has = true → T.la = S.la) : Pl.jla T = Pl.jla S := by
  unfold Pl.jla
  rw [← h1]
  split
  · rename_i h; exact h2 h
  · rfl

theorem law_few (p : Option Addr) (cap : Nat) (xs : List EnV) (w0 : World) (hx : Rd w0 p (xs.flatMap encEn)) (hl : xs.length ≤ 9223372036854775807) : C Try.prog 23 [.slice p xs.length cap] w0 fun v w' => v = .bool (fewB xs) ∧ Ext No w0 w' := by
  refine C_of Try.func23 rfl rfl rfl fun κ hret hnorm => ?_
  have hm := Mem.start w0
  refine HW_seq rfl ?_
  refine HW_text (.pure 0 .done) (by kernel_rfl) ?_
  refine rw_p rfl rfl (y_assign rfl) ?_
  refine rw_done ?_
  refine gn_sq ?_
  refine HW_seq rfl ?_
  refine HW_seq rfl ?_
  refine HW_text (.pure 0 (.pure 1 (.pure 2 .done))) (by kernel_rfl) ?_
  refine rw_p rfl rfl (y_move rfl) ?_
  refine rw_p rfl rfl (y_len rfl rfl sl61) ?_
  refine rw_p rfl rfl (y_gt rfl rfl) ?_
  refine rw_done ?_
  refine gn_sq ?_
  refine HW_cond rfl rfl (fun hc0 => ?_) (fun hc0 => ?_)
  ·
    simp only [decide_eq_true_eq] at hc0
    refine HW_seq rfl ?_
    refine HW_text (.pure 0 .done) (by kernel_rfl) ?_
    refine rw_p rfl rfl (y_assign rfl) ?_
    refine rw_done ?_
    refine gn_sq ?_
    refine HW_ret rfl ?_
    refine gr_sq ?_
    refine toR (fin hret rfl (.tmp rfl .nil) .one ?_)
    exact ⟨by unfold fewB; rw [decide_eq_false (by omega)]; rfl, hm.to⟩
  ·
    simp only [decide_eq_false_iff_not] at hc0
    refine HW_skip rfl ?_
    refine gn_sq ?_
    refine HW_seq rfl ?_
    refine HW_seq rfl ?_
    refine HW_text (.pure 0 (.pure 1 (.pure 2 .done))) (by kernel_rfl) ?_
    refine rw_p rfl rfl (y_move rfl) ?_
    refine rw_p rfl rfl (y_len rfl rfl sl61) ?_
    refine rw_p rfl rfl (y_move rfl) ?_
    refine rw_done ?_
    refine gn_sq ?_
    refine HW_block rfl ?_
    refine HW_loopK (ι := Nat) rfl (ks := [8, 9]) (.cons rfl (.cons rfl .nil)) (fun k => [(10, .int .i64 k)]) (fun k w => Mem w0 w No [] ∧ k ≤ xs.length ∧ ∀ y ∈ xs.take k, y.d.bs.length ≤ 200) (fun k => xs.length - k) 0 (⟨hm, Nat.zero_le _, by simp⟩) ⟨rfl, trivial⟩ (fun k w hM => ?_)
    obtain ⟨hm, hk, h200⟩ := hM
    refine HW_seq rfl ?_
    refine HW_text (.pure 0 .done) (by kernel_rfl) ?_
    refine rw_p rfl rfl (y_lt rfl rfl) ?_
    refine rw_done ?_
    refine gn_sq ?_
    refine HW_seq rfl ?_
    refine HW_cond rfl rfl (fun hc1 => ?_) (fun hc1 => ?_)
    ·
      simp only [decide_eq_true_eq] at hc1
      obtain ⟨e, hi⟩ : ∃ y_, xs[k]? = some y_ := ⟨_, List.getElem?_eq_getElem (by omega)⟩
      obtain ⟨qb, qo, rfl⟩ := hx.atI encEn_len (by decide) hi
      refine HW_skip rfl ?_
      refine gn_sq ?_
      refine HW_seq rfl ?_
      refine HW_block rfl ?_
      refine HW_seq rfl ?_
      refine HW_text (.pure 0 (.pure 1 (.act 2 (.act 3 .done)))) (by kernel_rfl) ?_
      refine rw_p rfl rfl (y_index rfl rfl sl61 rfl (by omega) (by omega)) ?_
      refine rw_p rfl rfl (y_elA rfl ag31 (hx.ext0 hm.to).nt encEn_len hi) ?_
      refine a_alloc rfl rfl z31 hm trivial fun m1 w hg_m1 hm hh => ?_
      refine a_store rfl rfl rfl rfl sz31 rfl hm 0 rfl rfl fun w hm => ?_
      refine rw_done ?_
      refine gn_sq ?_
      refine HW_seq rfl ?_
      refine HW_text (.pure 0 (.pure 1 (.pure 2 (.pure 3 .done)))) (by kernel_rfl) ?_
      refine rw_p rfl rfl (y_fieldAddr rfl fo31_2) ?_
      refine rw_p rfl rfl (y_load rfl sc26 (hm.nt 0 rfl) rfl) ?_
      refine rw_p rfl rfl (y_len rfl rfl sl26) ?_
      refine rw_p rfl rfl (y_gt rfl rfl) ?_
      refine rw_done ?_
      refine gn_sq ?_
      refine HW_cond rfl rfl (fun hc2 => ?_) (fun hc2 => ?_)
      ·
        simp only [decide_eq_true_eq] at hc2
        refine HW_seq rfl ?_
        refine HW_text (.pure 0 .done) (by kernel_rfl) ?_
        refine rw_p rfl rfl (y_assign rfl) ?_
        refine rw_done ?_
        refine gn_sq ?_
        refine HW_ret rfl ?_
        refine gr_bl (gr_sq (gr_lp (gr_bl (gr_sq ?_))))
        refine toR (fin hret rfl (.tmp rfl .nil) .one ?_)
        have hF : fewB xs = false := by
          unfold fewB
          rw [Bool.and_eq_false_iff]
          exact .inr (List.all_eq_false.2 ⟨e, List.mem_of_getElem? hi, by simp only [decide_eq_true_eq]; omega⟩)
        exact ⟨by rw [hF], hm.to⟩
      ·
        simp only [decide_eq_false_iff_not] at hc2
        refine HW_skip rfl ?_
        refine gn_bl ?_
        refine gn_sq ?_
        refine HW_text (.pure 0 (.pure 1 .done)) (by kernel_rfl) ?_
        refine rw_p rfl rfl (y_add rfl rfl (i64w (by omega) (by omega))) ?_
        refine rw_p rfl rfl (y_move rfl) ?_
        refine rw_done ?_
        refine next (k + 1) (by omega) ⟨hm.drop (List.nil_sublist _), by omega, fun y hy => ?_⟩ ⟨nx k, rfl, rfl, trivial⟩
        simp only [List.take_add_one, hi, Option.toList] at hy
        rcases List.mem_append.1 hy with h9 | h9
        · exact h200 y h9
        · rw [List.mem_singleton.1 h9]; omega
    ·
      simp only [decide_eq_false_iff_not] at hc1
      have hke : k = xs.length := by omega
      rw [hke, List.take_length] at h200
      refine HW_exit rfl ?_
      refine gx_sq (gx_lp ?_)
      refine gx_here ?_
      refine gn_sq ?_
      refine HW_seq rfl ?_
      refine HW_text (.pure 0 .done) (by kernel_rfl) ?_
      refine rw_p rfl rfl (y_assign rfl) ?_
      refine rw_done ?_
      refine gn_sq ?_
      refine HW_ret rfl ?_
      refine toR (fin hret rfl (.tmp rfl .nil) .one ?_)
      have hT : fewB xs = true := by
        unfold fewB
        rw [Bool.and_eq_true, List.all_eq_true]
        exact ⟨decide_eq_true (by omega), fun y hy => decide_eq_true (h200 y hy)⟩
      exact ⟨by rw [hT], hm.to⟩

theorem conf_r (p : Option Addr) (cap : Nat) (xs : List RcV) (fi : FuncId) (l2 : List Value) (pred : RcV → Bool) (w0 : World) (hx : Rd w0 p (xs.flatMap encR)) (hlen : xs.length ≤ 9223372036854775807) (hg : isGo Try.prog fi = true) (hf : ∀ x w1, x ∈ xs → Ext No w0 w1 → C Try.prog fi (.agg ⟨encR x⟩ :: l2) w1 fun v w2 => v = .bool (pred x) ∧ Ext No w1 w2) : C Try.prog 27 [.slice p xs.length cap, .func (.func fi) #[] ⟨l2⟩] w0 fun v w' => v = .bool (xs.any pred) ∧ Ext No w0 w' := by
  refine C_of Try.func27 rfl rfl rfl fun κ hret hnorm => ?_
  have hm := Mem.start w0
  refine HW_seq rfl ?_
  refine HW_text (.pure 0 .done) (by kernel_rfl) ?_
  refine rw_p rfl rfl (y_assign rfl) ?_
  refine rw_done ?_
  refine gn_sq ?_
  refine HW_seq rfl ?_
  refine HW_text (.pure 0 (.pure 1 (.act 2 (.pure 3 (.pure 4 .done))))) (by kernel_rfl) ?_
  refine rw_p rfl rfl (y_move rfl) ?_
  refine rw_p rfl rfl (y_move rfl) ?_
  refine a_call rfl rfl rfl go58 (idxf_r p cap xs fi l2 pred _ hx hlen hg hf) fun v w hR => ?_
  obtain ⟨rfl, hE⟩ := hR
  refine ⟨trivial, ?_⟩
  replace hm := hm.ext hE
  refine rw_p rfl rfl (y_ge rfl rfl) ?_
  refine rw_p rfl rfl (y_assign rfl) ?_
  refine rw_done ?_
  refine gn_sq ?_
  refine HW_ret rfl ?_
  refine toR (fin hret rfl (.tmp rfl .nil) .one ?_)
  exact ⟨by rw [← Pl.idx_nonneg], hm.to⟩

theorem law_cr1 (x : RcV) (y : Pl.Rc) (q : Option Addr) (c m : Nat) (w0 : World) (hm9 : w0.heap[m]? = some (Blk.row 66 (rcV y q y.bs.length c)).toObj) (hx : Rd w0 x.d.p (x.d.bs.flatMap encB)) (hy : Rd w0 q (y.bs.flatMap encB)) : C Try.prog 28 [.agg ⟨encR x⟩, .pointer (some ⟨m, 0, none⟩)] w0 fun v w' => v = .bool (Pl.rsame x.rc y) ∧ Ext No w0 w' := by
  refine C_of Try.func28 rfl rfl rfl fun κ hret hnorm => ?_
  have hm := Mem.start w0
  refine HW_seq rfl ?_
  refine HW_text (.act 0 (.pure 1 .done)) (by kernel_rfl) ?_
  refine a_box rfl rfl rfl rfl hm trivial fun m1 w hg_m1 hm hh => ?_
  refine rw_p rfl rfl (y_assign rfl) ?_
  refine rw_done ?_
  refine gn_sq ?_
  refine HW_seq rfl ?_
  refine HW_text (.pure 0 (.pure 1 (.act 2 (.pure 3 .done)))) (by kernel_rfl) ?_
  refine rw_p rfl rfl (y_loadA (s := 5) (vs := [_, _, _, _, _]) rfl ag43 (hm.nt 0 rfl) rfl) ?_
  refine rw_p rfl rfl (y_loadA (s := 5) (vs := [_, _, _, _, _]) rfl ag66 (nowT ((hm.to.same _ (Array.getElem?_eq_some_iff.1 hm9).1 id).trans hm9)) rfl) ?_
  refine a_call rfl rfl rfl go29 (rec_same x.rc y x.d.p q x.d.cap c _ (hx.ext0 hm.to) (hy.ext0 hm.to)) fun v w hR => ?_
  obtain ⟨rfl, hE⟩ := hR
  refine ⟨trivial, ?_⟩
  replace hm := hm.ext hE
  refine rw_p rfl rfl (y_assign rfl) ?_
  refine rw_done ?_
  refine gn_sq ?_
  refine HW_ret rfl ?_
  refine toR (fin hret rfl (.tmp rfl .nil) .one ?_)
  exact ⟨rfl, hm.to⟩

end Go.Proofs.Ythailbggeafckaa
