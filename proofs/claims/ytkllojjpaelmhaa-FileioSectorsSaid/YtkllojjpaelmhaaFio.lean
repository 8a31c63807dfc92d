/- Contracts of functions of the program: what each returns. Conditions: the hypotheses of each theorem. -/
import Derived.Test.YtkllojjpaelmhaaRfE
import Derived.Test.YtkllojjpaelmhaaLay
import Derived.Test.YtkllojjpaelmhaaCyC
set_option linter.unusedVariables false
set_option linter.unusedSimpArgs false
namespace Go.Proofs.Ytkllojjpaelmhaa
open Go Go.Cx

theorem go41 : isGo Try.prog 41 = true := by kernel_rfl
theorem go56 : isGo Try.prog 56 = true := by kernel_rfl
theorem go58 : isGo Try.prog 58 = true := by kernel_rfl
theorem go9 : isGo Try.prog 9 = true := by kernel_rfl

theorem f_check (D : Pl.Dv) (m : Nat) (Z : List (Nat × Blk)) (w0 : World) (hZ : OwnZ w0 Z) (hz : DevZ 79 83 5 D m Z) (a b : Int) (ha : Pl.I64 a) (hb : Pl.I64 b) : C Try.prog 39 [.pointer (some ⟨m, 0, none⟩), .agg ⟨[.int .i64 a, .int .i64 b]⟩] w0 fun v w' => v = .int .i64 (if Pl.onD D a b = true then 0 else 2) ∧ Ext No w0 w' := by
  have hok := hz.ok
  have o4 := hok.max
  have ho : Pl.onD D a b = (Pl.valid a b && decide (a + b ≤ ((D.cnt * D.sz : Nat) : Int))) := rfl
  refine C_of Try.func39 rfl rfl rfl fun κ hret hnorm => ?_
  have hm := Mem.start w0
  refine HW_seq rfl ?_
  refine HW_text (.act 0 (.pure 1 .done)) (by kernel_rfl) ?_
  refine a_box rfl rfl rfl rfl hm trivial fun m1 w hg_m1 hm hh => ?_
  refine rw_p rfl rfl (y_assign rfl) ?_
  refine rw_done ?_
  refine gn_sq ?_
  refine HW_seq rfl ?_
  refine HW_block rfl ?_
  refine HW_seq rfl ?_
  refine HW_text (.pure 0 (.pure 1 (.pure 2 .done))) (by kernel_rfl) ?_
  refine rw_p rfl rfl (y_move rfl) ?_
  refine rw_p rfl rfl (y_pnil rfl rfl pb30) ?_
  refine rw_p rfl rfl (y_assign rfl) ?_
  refine rw_done ?_
  refine gn_sq ?_
  refine HW_condF rfl rfl rfl ?_
  refine HW_seq rfl ?_
  cases hv : Pl.valid a b
  ·
    refine HW_text (.pure 0 (.act 1 (.pure 2 (.pure 3 (.pure 4 (.act 5 (.pure 6 (.act 7 (.pure 8 (.act 9 (.pure 10 (.pure 11 (.pure 12 (.pure 13 .done)))))))))))))) (by kernel_rfl) ?_
    refine rw_p rfl rfl (y_loadA (s := 2) (vs := [_, _]) rfl ag23 (hm.nt 0 rfl) rfl) ?_
    refine a_call rfl rfl rfl go29 (C.as (v := .bool false) (ext_valid a b _ ha hb) (by rw [hv])) fun v w hR => ?_
    obtain ⟨rfl, hE⟩ := hR
    refine ⟨trivial, ?_⟩
    replace hm := hm.ext hE
    refine rw_p rfl rfl (y_not rfl) ?_
    refine rw_p rfl rfl (y_move rfl) ?_
    refine rw_gf rfl rfl (by decide) rfl ?_
    refine a_gf rfl rfl (by decide) rfl trivial ?_
    refine rw_gf rfl rfl (by decide) rfl ?_
    refine a_gf rfl rfl (by decide) rfl trivial ?_
    refine rw_gf rfl rfl (by decide) rfl ?_
    refine a_gf rfl rfl (by decide) rfl trivial ?_
    refine rw_gf rfl rfl (by decide) rfl ?_
    refine rw_gf rfl rfl (by decide) rfl ?_
    refine rw_p rfl rfl (y_pickT rfl rfl) ?_
    refine rw_p rfl rfl (y_assign rfl) ?_
    refine rw_done ?_
    refine gn_sq ?_
    refine HW_condT rfl rfl rfl ?_
    refine HW_seq rfl ?_
    refine HW_text (.pure 0 .done) (by kernel_rfl) ?_
    refine rw_p rfl rfl (y_assign rfl) ?_
    refine rw_done ?_
    refine gn_sq ?_
    refine HW_ret rfl ?_
    refine gr_bl (gr_sq ?_)
    refine toR (fin hret rfl (.tmp rfl .nil) .one ?_)
    first | exact ⟨by rw [ho, hv]; rfl, hm.to⟩ | exact ⟨by rw [ho, hv, decide_eq_false (by omega)]; rfl, hm.to⟩
  ·
    have hv2 := Pl.valid_t hv
    refine HW_text (.pure 0 (.act 1 (.pure 2 (.pure 3 (.pure 4 (.act 5 (.pure 6 (.act 7 (.pure 8 (.act 9 (.pure 10 (.pure 11 (.pure 12 (.pure 13 .done)))))))))))))) (by kernel_rfl) ?_
    refine rw_p rfl rfl (y_loadA (s := 2) (vs := [_, _]) rfl ag23 (hm.nt 0 rfl) rfl) ?_
    refine a_call rfl rfl rfl go29 (C.as (v := .bool true) (ext_valid a b _ ha hb) (by rw [hv])) fun v w hR => ?_
    obtain ⟨rfl, hE⟩ := hR
    refine ⟨trivial, ?_⟩
    replace hm := hm.ext hE
    refine rw_p rfl rfl (y_not rfl) ?_
    refine rw_p rfl rfl (y_move rfl) ?_
    refine rw_p rfl rfl (y_loadA (s := 2) (vs := [_, _]) rfl ag23 (hm.nt 0 rfl) rfl) ?_
    refine a_call rfl rfl rfl go30 (ext_end a b _ (by simp only [Pl.I64]; omega)) fun v w hR => ?_
    obtain ⟨rfl, hE⟩ := hR
    refine ⟨trivial, ?_⟩
    replace hm := hm.ext hE
    refine rw_p rfl rfl (y_move rfl) ?_
    refine a_call rfl rfl rfl go41 (o_size D m Z _ (hZ.ext hm.to) hz) fun v w hR => ?_
    obtain ⟨rfl, hE⟩ := hR
    refine ⟨trivial, ?_⟩
    replace hm := hm.ext hE
    refine rw_p rfl rfl (y_move rfl) ?_
    refine a_call rfl rfl rfl go56 (o_sectors D m Z _ (hZ.ext hm.to) hz) fun v w hR => ?_
    obtain ⟨rfl, hE⟩ := hR
    refine ⟨trivial, ?_⟩
    replace hm := hm.ext hE
    refine rw_p rfl rfl (y_mul rfl rfl ((mulN (by rw [Nat.mul_comm]; omega)).trans (show _ = ((D.cnt * D.sz : Nat) : Int) by rw [Nat.mul_comm]))) ?_
    refine rw_p rfl rfl (y_gt rfl rfl) ?_
    refine rw_p rfl rfl (y_pickF rfl rfl) ?_
    refine rw_p rfl rfl (y_assign rfl) ?_
    refine rw_done ?_
    refine gn_sq ?_
    refine HW_cond rfl rfl (fun hc1 => ?_) (fun hc1 => ?_)
    ·
      simp only [decide_eq_true_eq] at hc1
      refine HW_seq rfl ?_
      refine HW_text (.pure 0 .done) (by kernel_rfl) ?_
      refine rw_p rfl rfl (y_assign rfl) ?_
      refine rw_done ?_
      refine gn_sq ?_
      refine HW_ret rfl ?_
      refine gr_bl (gr_sq ?_)
      refine toR (fin hret rfl (.tmp rfl .nil) .one ?_)
      first | exact ⟨by rw [ho, hv]; rfl, hm.to⟩ | exact ⟨by rw [ho, hv, decide_eq_false (by omega)]; rfl, hm.to⟩
    ·
      simp only [decide_eq_false_iff_not] at hc1
      refine HW_skip rfl ?_
      refine gn_bl ?_
      refine gn_sq ?_
      refine HW_seq rfl ?_
      refine HW_text (.pure 0 .done) (by kernel_rfl) ?_
      refine rw_p rfl rfl (y_assign rfl) ?_
      refine rw_done ?_
      refine gn_sq ?_
      refine HW_ret rfl ?_
      refine toR (fin hret rfl (.tmp rfl .nil) .one ?_)
      exact ⟨by rw [ho, hv, decide_eq_true (by omega)]; rfl, hm.to⟩

theorem f_checkN (x : Value) (w0 : World) : C Try.prog 39 [.pointer none, x] w0 fun v w' => v = .int .i64 1 ∧ Ext No w0 w' := by
  refine C_of Try.func39 rfl rfl rfl fun κ hret hnorm => ?_
  have hm := Mem.start w0
  refine HW_seq rfl ?_
  refine HW_text (.act 0 (.pure 1 .done)) (by kernel_rfl) ?_
  refine a_box rfl rfl rfl rfl hm trivial fun m1 w hg_m1 hm hh => ?_
  refine rw_p rfl rfl (y_assign rfl) ?_
  refine rw_done ?_
  refine gn_sq ?_
  refine HW_seq rfl ?_
  refine HW_block rfl ?_
  refine HW_seq rfl ?_
  refine HW_text (.pure 0 (.pure 1 (.pure 2 .done))) (by kernel_rfl) ?_
  refine rw_p rfl rfl (y_move rfl) ?_
  refine rw_p rfl rfl (y_pnil rfl rfl pb30) ?_
  refine rw_p rfl rfl (y_assign rfl) ?_
  refine rw_done ?_
  refine gn_sq ?_
  refine HW_condT rfl rfl rfl ?_
  refine HW_seq rfl ?_
  refine HW_text (.pure 0 .done) (by kernel_rfl) ?_
  refine rw_p rfl rfl (y_assign rfl) ?_
  refine rw_done ?_
  refine gn_sq ?_
  refine HW_ret rfl ?_
  refine gr_bl (gr_sq ?_)
  refine toR (fin hret rfl (.tmp rfl .nil) .one ?_)
  exact ⟨rfl, hm.to⟩

theorem f_parts (s a b : Int) (w0 : World) : C Try.prog 40 [.int .i64 s, .agg ⟨[.int .i64 a, .int .i64 b]⟩] w0 fun v w' => ∃ q1 q2, v = .func (.func 57) #[] ⟨[.pointer (some ⟨q1, 0, none⟩), .pointer (some ⟨q2, 0, none⟩)]⟩ ∧ Mem w0 w' No [(q2, .row 23 [.int .i64 a, .int .i64 b]), (q1, .row 3 [.int .i64 s])] := by
  refine C_of Try.func40 rfl rfl rfl fun κ hret hnorm => ?_
  have hm := Mem.start w0
  refine HW_seq rfl ?_
  refine HW_text (.act 0 (.act 1 (.pure 2 .done))) (by kernel_rfl) ?_
  refine a_box rfl rfl rfl rfl hm trivial fun m1 w hg_m1 hm hh => ?_
  refine a_box rfl rfl rfl rfl hm trivial fun m2 w hg_m2 hm hh => ?_
  refine rw_p rfl rfl (y_assign rfl) ?_
  refine rw_done ?_
  refine gn_sq ?_
  refine HW_seq rfl ?_
  refine HW_text (.pure 0 (.pure 1 .done)) (by kernel_rfl) ?_
  refine rw_p rfl rfl (y_func rfl rfl) ?_
  refine rw_p rfl rfl (y_assign rfl) ?_
  refine rw_done ?_
  refine gn_sq ?_
  refine HW_ret rfl ?_
  refine toR (fin hret rfl (.tmp rfl .nil) .one ?_)
  exact ⟨_, _, rfl, hm⟩

set_option maxHeartbeats 800000 in
theorem f_parts1 (sz a b : Nat) (u1 u2 yl : Nat) (I : List (Nat × Blk) → Nat → World → Prop) (Q : World → Prop) (F0 : List (Nat × Blk)) (w0 : World) (hs : 1 ≤ sz) (hsz : sz ≤ 1048576) (hab : a + b ≤ 1048576)
    (hrow : ∀ F i w, I F i w → w.heap[u1]? = some (Blk.row 3 [.int .i64 (sz : Int)]).toObj ∧ w.heap[u2]? = some (Blk.row 23 [.int .i64 (a : Int), .int .i64 (b : Int)]).toObj)
    (hext : ∀ F i w w' N, I F i w → Mem w w' No N → I (F ++ N) i w') (hown : ∀ F i w, I F i w → ∀ e, e ∈ F → e.2.real = true → w.heap[e.1]? = some e.2.toObj)
    (hy : ∀ F i w, I F i w → Pl.sF sz a b ≤ i → i < Pl.sF sz a b + Pl.sN sz a b → Yw Try.prog yl [.int .i64 (i : Int), .agg ⟨[.int .i64 ((Pl.pO sz a i : Nat) : Int), .int .i64 ((Pl.pL sz a b i : Nat) : Int)]⟩] w fun v w' => (v = .bool true ∧ I F (i + 1) w') ∨ (v = .bool false ∧ Q w')) (h0 : I F0 (Pl.sF sz a b) w0) : C Try.prog 57 [.func (.yield yl) #[] #[], .pointer (some ⟨u1, 0, none⟩), .pointer (some ⟨u2, 0, none⟩)] w0 fun v w' => v = .tuple ⟨[]⟩ ∧ ((∃ F, I F (Pl.sF sz a b + Pl.sN sz a b) w') ∨ Q w') := by
  have hbd : ∀ i, i < Pl.sF sz a b + Pl.sN sz a b → Pl.sF sz a b ≤ i → i * sz < a + b := fun i h1 h2 => (Pl.s_in hs h2 h1).2.1
  have hcn := Pl.s_cnt (cnt := 1048576) (sz := sz) (a := a) (b := b) hs (Nat.le_trans hab (Nat.le_mul_of_pos_right _ hs)) (by decide)
  obtain ⟨E, hE9⟩ : ∃ E, Pl.sF sz a b + Pl.sN sz a b = E := ⟨_, rfl⟩
  have hEc : ((Pl.sF sz a b : Nat) : Int) + ((Pl.sN sz a b : Nat) : Int) = (E : Int) := by omega
  refine C_of Try.func57 rfl rfl rfl fun κ hret hnorm => ?_
  have hm := Mem.start w0
  refine HW_seq rfl ?_
  refine HW_text (.pure 0 (.pure 1 (.act 2 (.act 3 (.act 4 .done))))) (by kernel_rfl) ?_
  refine rw_p rfl rfl (y_load rfl sc3 (nowT ((hm.to.same _ (Array.getElem?_eq_some_iff.1 (hrow _ _ _ h0).1).1 id).trans (hrow _ _ _ h0).1)) rfl) ?_
  refine rw_p rfl rfl (y_loadA (s := 2) (vs := [_, _]) rfl ag23 (nowT ((hm.to.same _ (Array.getElem?_eq_some_iff.1 (hrow _ _ _ h0).2).1 id).trans (hrow _ _ _ h0).2)) rfl) ?_
  refine a_call rfl rfl rfl go9 (C.as (v := .agg ⟨[.int .i64 ((Pl.sF sz a b : Nat) : Int), .int .i64 ((Pl.sN sz a b : Nat) : Int)]⟩) (f_secs (sz : Int) (a : Int) (b : Int) _ (by simp only [Pl.I64]; omega) (by simp only [Pl.I64]; omega) (by simp only [Pl.I64]; omega)) (by rw [Pl.secs_nat hs (by omega)]; rfl)) fun v w hR => ?_
  obtain ⟨rfl, hE⟩ := hR
  refine ⟨trivial, ?_⟩
  replace hm := hm.ext hE
  refine a_alloc rfl rfl z23 hm trivial fun m1 w hg_m1 hm hh => ?_
  refine a_store rfl rfl rfl rfl sz23 rfl hm 0 rfl rfl fun w hm => ?_
  refine rw_done ?_
  refine gn_sq ?_
  refine HW_seq rfl ?_
  refine HW_text (.pure 0 (.pure 1 (.pure 2 .done))) (by kernel_rfl) ?_
  refine rw_p rfl rfl (y_fieldAddr rfl fo23_0) ?_
  refine rw_p rfl rfl (y_load rfl sc3 (hm.nt 0 rfl) rfl) ?_
  refine rw_p rfl rfl (y_assign rfl) ?_
  refine rw_done ?_
  refine gn_sq ?_
  refine HW_block rfl ?_
  refine HW_loopK (ι := List (Nat × Blk) × Nat) rfl (ks := [0, 1, 2, 4]) (.cons rfl (.cons rfl (.cons rfl (.cons rfl .nil)))) (fun x => [(5, .int .i64 x.2)]) (fun x w => I x.1 x.2 w ∧ Pl.sF sz a b ≤ x.2 ∧ x.2 ≤ E ∧ (m1, Blk.row 23 [.int .i64 ((Pl.sF sz a b : Nat) : Int), .int .i64 ((Pl.sN sz a b : Nat) : Int)]) ∈ x.1) (fun x => E - x.2) (F0 ++ _, Pl.sF sz a b) (⟨hext _ _ _ _ _ h0 hm, Nat.le_refl _, by omega, List.mem_append_right _ (List.mem_singleton.2 rfl)⟩) ⟨rfl, trivial⟩ (fun x w hM => ?_)
  obtain ⟨hI, hlo, hk, hF⟩ := hM
  have hm := Mem.start w
  obtain ⟨hR1, hR2⟩ := hrow _ _ _ hI
  have hT := hown _ _ _ hI _ hF rfl
  refine HW_seq rfl ?_
  refine HW_seq rfl ?_
  refine HW_text (.pure 0 (.pure 1 (.act 2 (.pure 3 .done)))) (by kernel_rfl) ?_
  refine rw_p rfl rfl (y_move rfl) ?_
  refine rw_p rfl rfl (y_loadA (s := 2) (vs := [_, _]) rfl ag23 (nowT ((hm.to.same _ (Array.getElem?_eq_some_iff.1 hT).1 id).trans hT)) rfl) ?_
  refine a_call rfl rfl rfl go30 (C.as (v := .int .i64 (E : Int)) (ext_end _ _ _ (by simp only [Pl.I64]; omega)) (by rw [hEc])) fun v w hR => ?_
  obtain ⟨rfl, hE⟩ := hR
  refine ⟨trivial, ?_⟩
  replace hm := hm.ext hE
  refine rw_p rfl rfl (y_lt rfl rfl) ?_
  refine rw_done ?_
  refine gn_sq ?_
  refine HW_cond rfl rfl (fun hc0 => ?_) (fun hc0 => ?_)
  ·
    simp only [decide_eq_true_eq] at hc0
    have hb9 := hbd x.2 (by omega) hlo
    refine HW_skip rfl ?_
    refine gn_sq ?_
    refine HW_seq rfl ?_
    refine HW_block rfl ?_
    refine HW_seq rfl ?_
    refine HW_text (.pure 0 (.pure 1 (.pure 2 (.pure 3 (.pure 4 (.pure 5 (.act 6 (.pure 7 (.pure 8 (.pure 9 (.act 10 (.act 11 (.pure 12 .done))))))))))))) (by kernel_rfl) ?_
    refine rw_p rfl rfl (y_loadA (s := 2) (vs := [_, _]) rfl ag23 (nowT ((hm.to.same _ (Array.getElem?_eq_some_iff.1 hR2).1 id).trans hR2)) rfl) ?_
    refine rw_p rfl rfl (y_move rfl) ?_
    refine rw_p rfl rfl (y_load rfl sc3 (nowT ((hm.to.same _ (Array.getElem?_eq_some_iff.1 hR1).1 id).trans hR1)) rfl) ?_
    refine rw_p rfl rfl (y_mul rfl rfl (mulN (by omega))) ?_
    refine rw_p rfl rfl (y_load rfl sc3 (nowT ((hm.to.same _ (Array.getElem?_eq_some_iff.1 hR1).1 id).trans hR1)) rfl) ?_
    refine rw_p rfl rfl (y_build (cs := [_, _]) z23 ft23 rfl rfl rfl rfl rfl) ?_
    refine a_call rfl rfl rfl go58 (C.as (v := .tuple ⟨[.agg ⟨[.int .i64 ((Pl.pO sz a x.2 : Nat) : Int), .int .i64 ((Pl.pL sz a b x.2 : Nat) : Int)]⟩, .bool true]⟩) (ext_overlap (a : Int) (b : Int) ((x.2 * sz : Nat) : Int) (sz : Int) _ (by omega) (by omega)) (by rw [Pl.part_eq hs hlo (by omega)]; rfl)) fun v w hR => ?_
    obtain ⟨rfl, hE⟩ := hR
    refine ⟨trivial, ?_⟩
    replace hm := hm.ext hE
    refine rw_p rfl rfl (y_move rfl) ?_
    refine rw_p rfl rfl (y_extract rfl rfl) ?_
    refine rw_p rfl rfl (y_extract rfl rfl) ?_
    refine a_alloc rfl rfl z23 hm trivial fun m2 w hg_m2 hm hh => ?_
    refine a_store rfl rfl rfl rfl sz23 rfl hm 0 rfl rfl fun w hm => ?_
    refine rw_p rfl rfl (y_assign rfl) ?_
    refine rw_done ?_
    refine gn_sq ?_
    refine HW_seq rfl ?_
    refine HW_text (.pure 0 (.pure 1 (.pure 2 (.act 3 (.pure 4 .done))))) (by kernel_rfl) ?_
    refine rw_p rfl rfl (y_move rfl) ?_
    refine rw_p rfl rfl (y_move rfl) ?_
    refine rw_p rfl rfl (y_loadA (s := 2) (vs := [_, _]) rfl ag23 (hm.nt 0 rfl) rfl) ?_
    have hI2 := hext _ _ _ _ _ hI hm
    refine a_yield rfl rfl rfl rfl (hy _ _ _ hI2 hlo (by omega)) fun v w hR => ?_
    refine ⟨trivial, ?_⟩
    obtain ⟨go9, rfl, hgo⟩ : ∃ go, v = .bool go ∧ ((go = true ∧ I _ (x.2 + 1) w) ∨ (go = false ∧ Q w)) := hR.elim (fun h => ⟨true, h.1, .inl ⟨rfl, h.2⟩⟩) (fun h => ⟨false, h.1, .inr ⟨rfl, h.2⟩⟩)
    refine rw_p rfl rfl (y_not rfl) ?_
    refine rw_done ?_
    refine gn_sq ?_
    refine HW_cond rfl rfl (fun hc1 => ?_) (fun hc1 => ?_)
    ·
      have hQ : Q w := hgo.elim (fun h => by rw [h.1] at hc1; cases hc1) (fun h => h.2)
      refine HW_ret rfl ?_
      refine gr_bl (gr_sq (gr_lp (gr_bl ?_)))
      refine toR (fin hret rfl .nil .nil ?_)
      exact ⟨rfl, .inr hQ⟩
    ·
      have hI3 := hgo.elim (fun h => h.2) (fun h => by rw [h.1] at hc1; cases hc1)
      refine HW_skip rfl ?_
      refine gn_bl ?_
      refine gn_sq ?_
      refine HW_text (.pure 0 (.pure 1 (.pure 2 .done))) (by kernel_rfl) ?_
      refine rw_p rfl rfl (y_move rfl) ?_
      refine rw_p rfl rfl (y_add rfl rfl (i64w (by omega) (by omega))) ?_
      refine rw_p rfl rfl (y_assign rfl) ?_
      refine rw_done ?_
      exact next (x.1 ++ _, x.2 + 1) (by simp only; omega) ⟨hI3, by simp only; omega, by simp only; omega, by simp [hF]⟩ ⟨nx x.2, rfl, rfl, rfl, rfl, trivial⟩
  ·
    simp only [decide_eq_false_iff_not] at hc0
    have hke : x.2 = E := by omega
    refine HW_exit rfl ?_
    refine gx_sq (gx_lp ?_)
    refine gx_here ?_
    refine toN (fin hnorm rfl .nil .nil ?_)
    exact ⟨rfl, .inl ⟨_, by rw [hE9, ← hke]; exact hext _ _ _ _ _ hI hm⟩⟩

end Go.Proofs.Ytkllojjpaelmhaa
