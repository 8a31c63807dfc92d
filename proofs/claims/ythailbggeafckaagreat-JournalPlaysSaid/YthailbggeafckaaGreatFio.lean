/- Contracts of functions of the program: what each returns. Conditions: the hypotheses of each theorem. -/
import Derived.Test.YthailbggeafckaaGreatRf
import Derived.Test.YthailbggeafckaaGreatLay
set_option linter.unusedVariables false
set_option linter.unusedSimpArgs false
namespace Go.Proofs.YthailbggeafckaaGreat
open Go Go.Cx

theorem go48 : isGo Tryz.prog 48 = true := by kernel_rfl
theorem go50 : isGo Tryz.prog 50 = true := by kernel_rfl
theorem go47 : isGo Tryz.prog 47 = true := by kernel_rfl
theorem go90 : isGo Tryz.prog 90 = true := by kernel_rfl
theorem go9 : isGo Tryz.prog 9 = true := by kernel_rfl
theorem go51 : isGo Tryz.prog 51 = true := by kernel_rfl
theorem go52 : isGo Tryz.prog 52 = true := by kernel_rfl
theorem go53 : isGo Tryz.prog 53 = true := by kernel_rfl
theorem go89 : isGo Tryz.prog 89 = true := by kernel_rfl
theorem sc34 : scal Tryz.prog 34 = true := by kernel_rfl
theorem sz34 : szO Tryz.prog 34 = some 1 := by kernel_rfl
theorem z22 : zer Tryz.prog 22 = some [.slice none 0 0] := by kernel_rfl
theorem z34 : zer Tryz.prog 34 = some [.int .i64 0] := by kernel_rfl
theorem go75 : isGo Tryz.prog 75 = true := by kernel_rfl
theorem go64 : isGo Tryz.prog 64 = true := by kernel_rfl
theorem go80 : isGo Tryz.prog 80 = true := by kernel_rfl
theorem go81 : isGo Tryz.prog 81 = true := by kernel_rfl
theorem go82 : isGo Tryz.prog 82 = true := by kernel_rfl
theorem go83 : isGo Tryz.prog 83 = true := by kernel_rfl

theorem f_check (D : Pl.Dv) (m : Nat) (Z : List (Nat × Blk)) (w0 : World) (hZ : OwnZ w0 Z) (hz : DevZ 107 157 5 D m Z) (a b : Int) (ha : Pl.I64 a) (hb : Pl.I64 b) : C Tryz.prog 51 [.pointer (some ⟨m, 0, none⟩), .agg ⟨[.int .i64 a, .int .i64 b]⟩] w0 fun v w' => v = .int .i64 (if Pl.onD D a b = true then 0 else 2) ∧ Ext No w0 w' := by
  have hok := hz.ok
  have o4 := hok.max
  have ho : Pl.onD D a b = (Pl.valid a b && decide (a + b ≤ ((D.cnt * D.sz : Nat) : Int))) := rfl
  refine C_of Tryz.func51 rfl rfl rfl fun κ hret hnorm => ?_
  have hm := Mem.start w0
  refine HW_seq rfl ?_
  refine HW_text (.act 0 (.pure 1 .done)) (by kernel_rfl) ?_
  refine a_box rfl rfl rfl rfl hm trivial fun m1 w hg_m1 hm hh => ?_
  refine rw_p rfl rfl (y_assign rfl) ?_
  refine rw_done ?_
  refine gn_sq ?_
  refine HW_seq rfl ?_
  refine HW_block rfl ?_
  refine HW_seq rfl ?_
  refine HW_text (.pure 0 (.pure 1 (.pure 2 .done))) (by kernel_rfl) ?_
  refine rw_p rfl rfl (y_move rfl) ?_
  refine rw_p rfl rfl (y_pnil rfl rfl pb27) ?_
  refine rw_p rfl rfl (y_assign rfl) ?_
  refine rw_done ?_
  refine gn_sq ?_
  refine HW_condF rfl rfl rfl ?_
  refine HW_seq rfl ?_
  cases hv : Pl.valid a b
  ·
    refine HW_text (.pure 0 (.act 1 (.pure 2 (.pure 3 (.pure 4 (.act 5 (.pure 6 (.act 7 (.pure 8 (.act 9 (.pure 10 (.pure 11 (.pure 12 (.pure 13 .done)))))))))))))) (by kernel_rfl) ?_
    refine rw_p rfl rfl (y_loadA (s := 2) (vs := [_, _]) rfl ag63 (hm.nt 0 rfl) rfl) ?_
    refine a_call rfl rfl rfl go72 (C.as (v := .bool false) (ext_valid a b _ ha hb) (by rw [hv])) fun v w hR => ?_
    obtain ⟨rfl, hE⟩ := hR
    refine ⟨trivial, ?_⟩
    replace hm := hm.ext hE
    refine rw_p rfl rfl (y_not rfl) ?_
    refine rw_p rfl rfl (y_move rfl) ?_
    refine rw_gf rfl rfl (by decide) rfl ?_
    refine a_gf rfl rfl (by decide) rfl trivial ?_
    refine rw_gf rfl rfl (by decide) rfl ?_
    refine a_gf rfl rfl (by decide) rfl trivial ?_
    refine rw_gf rfl rfl (by decide) rfl ?_
    refine a_gf rfl rfl (by decide) rfl trivial ?_
    refine rw_gf rfl rfl (by decide) rfl ?_
    refine rw_gf rfl rfl (by decide) rfl ?_
    refine rw_p rfl rfl (y_pickT rfl rfl) ?_
    refine rw_p rfl rfl (y_assign rfl) ?_
    refine rw_done ?_
    refine gn_sq ?_
    refine HW_condT rfl rfl rfl ?_
    refine HW_seq rfl ?_
    refine HW_text (.pure 0 .done) (by kernel_rfl) ?_
    refine rw_p rfl rfl (y_assign rfl) ?_
    refine rw_done ?_
    refine gn_sq ?_
    refine HW_ret rfl ?_
    refine gr_bl (gr_sq ?_)
    refine toR (fin hret rfl (.tmp rfl .nil) .one ?_)
    first | exact ⟨by rw [ho, hv]; rfl, hm.to⟩ | exact ⟨by rw [ho, hv, decide_eq_false (by omega)]; rfl, hm.to⟩
  ·
    have hv2 := Pl.valid_t hv
    refine HW_text (.pure 0 (.act 1 (.pure 2 (.pure 3 (.pure 4 (.act 5 (.pure 6 (.act 7 (.pure 8 (.act 9 (.pure 10 (.pure 11 (.pure 12 (.pure 13 .done)))))))))))))) (by kernel_rfl) ?_
    refine rw_p rfl rfl (y_loadA (s := 2) (vs := [_, _]) rfl ag63 (hm.nt 0 rfl) rfl) ?_
    refine a_call rfl rfl rfl go72 (C.as (v := .bool true) (ext_valid a b _ ha hb) (by rw [hv])) fun v w hR => ?_
    obtain ⟨rfl, hE⟩ := hR
    refine ⟨trivial, ?_⟩
    replace hm := hm.ext hE
    refine rw_p rfl rfl (y_not rfl) ?_
    refine rw_p rfl rfl (y_move rfl) ?_
    refine rw_p rfl rfl (y_loadA (s := 2) (vs := [_, _]) rfl ag63 (hm.nt 0 rfl) rfl) ?_
    refine a_call rfl rfl rfl go87 (ext_end a b _ (by simp only [Pl.I64]; omega)) fun v w hR => ?_
    obtain ⟨rfl, hE⟩ := hR
    refine ⟨trivial, ?_⟩
    replace hm := hm.ext hE
    refine rw_p rfl rfl (y_move rfl) ?_
    refine a_call rfl rfl rfl go48 (o_size D m Z _ (hZ.ext hm.to) hz) fun v w hR => ?_
    obtain ⟨rfl, hE⟩ := hR
    refine ⟨trivial, ?_⟩
    replace hm := hm.ext hE
    refine rw_p rfl rfl (y_move rfl) ?_
    refine a_call rfl rfl rfl go50 (o_sectors D m Z _ (hZ.ext hm.to) hz) fun v w hR => ?_
    obtain ⟨rfl, hE⟩ := hR
    refine ⟨trivial, ?_⟩
    replace hm := hm.ext hE
    refine rw_p rfl rfl (y_mul rfl rfl ((mulN (by rw [Nat.mul_comm]; omega)).trans (show _ = ((D.cnt * D.sz : Nat) : Int) by rw [Nat.mul_comm]))) ?_
    refine rw_p rfl rfl (y_gt rfl rfl) ?_
    refine rw_p rfl rfl (y_pickF rfl rfl) ?_
    refine rw_p rfl rfl (y_assign rfl) ?_
    refine rw_done ?_
    refine gn_sq ?_
    refine HW_cond rfl rfl (fun hc1 => ?_) (fun hc1 => ?_)
    ·
      simp only [decide_eq_true_eq] at hc1
      refine HW_seq rfl ?_
      refine HW_text (.pure 0 .done) (by kernel_rfl) ?_
      refine rw_p rfl rfl (y_assign rfl) ?_
      refine rw_done ?_
      refine gn_sq ?_
      refine HW_ret rfl ?_
      refine gr_bl (gr_sq ?_)
      refine toR (fin hret rfl (.tmp rfl .nil) .one ?_)
      first | exact ⟨by rw [ho, hv]; rfl, hm.to⟩ | exact ⟨by rw [ho, hv, decide_eq_false (by omega)]; rfl, hm.to⟩
    ·
      simp only [decide_eq_false_iff_not] at hc1
      refine HW_skip rfl ?_
      refine gn_bl ?_
      refine gn_sq ?_
      refine HW_seq rfl ?_
      refine HW_text (.pure 0 .done) (by kernel_rfl) ?_
      refine rw_p rfl rfl (y_assign rfl) ?_
      refine rw_done ?_
      refine gn_sq ?_
      refine HW_ret rfl ?_
      refine toR (fin hret rfl (.tmp rfl .nil) .one ?_)
      exact ⟨by rw [ho, hv, decide_eq_true (by omega)]; rfl, hm.to⟩

theorem f_checkN (x : Value) (w0 : World) : C Tryz.prog 51 [.pointer none, x] w0 fun v w' => v = .int .i64 1 ∧ Ext No w0 w' := by
  refine C_of Tryz.func51 rfl rfl rfl fun κ hret hnorm => ?_
  have hm := Mem.start w0
  refine HW_seq rfl ?_
  refine HW_text (.act 0 (.pure 1 .done)) (by kernel_rfl) ?_
  refine a_box rfl rfl rfl rfl hm trivial fun m1 w hg_m1 hm hh => ?_
  refine rw_p rfl rfl (y_assign rfl) ?_
  refine rw_done ?_
  refine gn_sq ?_
  refine HW_seq rfl ?_
  refine HW_block rfl ?_
  refine HW_seq rfl ?_
  refine HW_text (.pure 0 (.pure 1 (.pure 2 .done))) (by kernel_rfl) ?_
  refine rw_p rfl rfl (y_move rfl) ?_
  refine rw_p rfl rfl (y_pnil rfl rfl pb27) ?_
  refine rw_p rfl rfl (y_assign rfl) ?_
  refine rw_done ?_
  refine gn_sq ?_
  refine HW_condT rfl rfl rfl ?_
  refine HW_seq rfl ?_
  refine HW_text (.pure 0 .done) (by kernel_rfl) ?_
  refine rw_p rfl rfl (y_assign rfl) ?_
  refine rw_done ?_
  refine gn_sq ?_
  refine HW_ret rfl ?_
  refine gr_bl (gr_sq ?_)
  refine toR (fin hret rfl (.tmp rfl .nil) .one ?_)
  exact ⟨rfl, hm.to⟩

theorem f_parts (s a b : Int) (w0 : World) : C Tryz.prog 52 [.int .i64 s, .agg ⟨[.int .i64 a, .int .i64 b]⟩] w0 fun v w' => ∃ q1 q2, v = .func (.func 89) #[] ⟨[.pointer (some ⟨q1, 0, none⟩), .pointer (some ⟨q2, 0, none⟩)]⟩ ∧ Mem w0 w' No [(q2, .row 63 [.int .i64 a, .int .i64 b]), (q1, .row 3 [.int .i64 s])] := by
  refine C_of Tryz.func52 rfl rfl rfl fun κ hret hnorm => ?_
  have hm := Mem.start w0
  refine HW_seq rfl ?_
  refine HW_text (.act 0 (.act 1 (.pure 2 .done))) (by kernel_rfl) ?_
  refine a_box rfl rfl rfl rfl hm trivial fun m1 w hg_m1 hm hh => ?_
  refine a_box rfl rfl rfl rfl hm trivial fun m2 w hg_m2 hm hh => ?_
  refine rw_p rfl rfl (y_assign rfl) ?_
  refine rw_done ?_
  refine gn_sq ?_
  refine HW_seq rfl ?_
  refine HW_text (.pure 0 (.pure 1 .done)) (by kernel_rfl) ?_
  refine rw_p rfl rfl (y_func rfl rfl) ?_
  refine rw_p rfl rfl (y_assign rfl) ?_
  refine rw_done ?_
  refine gn_sq ?_
  refine HW_ret rfl ?_
  refine toR (fin hret rfl (.tmp rfl .nil) .one ?_)
  exact ⟨_, _, rfl, hm⟩

set_option maxHeartbeats 800000 in
theorem f_parts1 (sz a b : Nat) (u1 u2 yl : Nat) (I : List (Nat × Blk) → Nat → World → Prop) (Q : World → Prop) (F0 : List (Nat × Blk)) (w0 : World) (hs : 1 ≤ sz) (hsz : sz ≤ 1048576) (hab : a + b ≤ 1048576)
    (hrow : ∀ F i w, I F i w → w.heap[u1]? = some (Blk.row 3 [.int .i64 (sz : Int)]).toObj ∧ w.heap[u2]? = some (Blk.row 63 [.int .i64 (a : Int), .int .i64 (b : Int)]).toObj)
    (hext : ∀ F i w w' N, I F i w → Mem w w' No N → I (F ++ N) i w') (hown : ∀ F i w, I F i w → ∀ e, e ∈ F → e.2.real = true → w.heap[e.1]? = some e.2.toObj)
    (hy : ∀ F i w, I F i w → Pl.sF sz a b ≤ i → i < Pl.sF sz a b + Pl.sN sz a b → Yw Tryz.prog yl [.int .i64 (i : Int), .agg ⟨[.int .i64 ((Pl.pO sz a i : Nat) : Int), .int .i64 ((Pl.pL sz a b i : Nat) : Int)]⟩] w fun v w' => (v = .bool true ∧ I F (i + 1) w') ∨ (v = .bool false ∧ Q w')) (h0 : I F0 (Pl.sF sz a b) w0) : C Tryz.prog 89 [.func (.yield yl) #[] #[], .pointer (some ⟨u1, 0, none⟩), .pointer (some ⟨u2, 0, none⟩)] w0 fun v w' => v = .tuple ⟨[]⟩ ∧ ((∃ F, I F (Pl.sF sz a b + Pl.sN sz a b) w') ∨ Q w') := by
  have hbd : ∀ i, i < Pl.sF sz a b + Pl.sN sz a b → Pl.sF sz a b ≤ i → i * sz < a + b := fun i h1 h2 => (Pl.s_in hs h2 h1).2.1
  have hcn := Pl.s_cnt (cnt := 1048576) (sz := sz) (a := a) (b := b) hs (Nat.le_trans hab (Nat.le_mul_of_pos_right _ hs)) (by decide)
  obtain ⟨E, hE9⟩ : ∃ E, Pl.sF sz a b + Pl.sN sz a b = E := ⟨_, rfl⟩
  have hEc : ((Pl.sF sz a b : Nat) : Int) + ((Pl.sN sz a b : Nat) : Int) = (E : Int) := by omega
  refine C_of Tryz.func89 rfl rfl rfl fun κ hret hnorm => ?_
  have hm := Mem.start w0
  refine HW_seq rfl ?_
  refine HW_text (.pure 0 (.pure 1 (.act 2 (.act 3 (.act 4 .done))))) (by kernel_rfl) ?_
  refine rw_p rfl rfl (y_load rfl sc3 (nowT ((hm.to.same _ (Array.getElem?_eq_some_iff.1 (hrow _ _ _ h0).1).1 id).trans (hrow _ _ _ h0).1)) rfl) ?_
  refine rw_p rfl rfl (y_loadA (s := 2) (vs := [_, _]) rfl ag63 (nowT ((hm.to.same _ (Array.getElem?_eq_some_iff.1 (hrow _ _ _ h0).2).1 id).trans (hrow _ _ _ h0).2)) rfl) ?_
  refine a_call rfl rfl rfl go47 (C.as (v := .agg ⟨[.int .i64 ((Pl.sF sz a b : Nat) : Int), .int .i64 ((Pl.sN sz a b : Nat) : Int)]⟩) (f_secs (sz : Int) (a : Int) (b : Int) _ (by simp only [Pl.I64]; omega) (by simp only [Pl.I64]; omega) (by simp only [Pl.I64]; omega)) (by rw [Pl.secs_nat hs (by omega)]; rfl)) fun v w hR => ?_
  obtain ⟨rfl, hE⟩ := hR
  refine ⟨trivial, ?_⟩
  replace hm := hm.ext hE
  refine a_alloc rfl rfl z63 hm trivial fun m1 w hg_m1 hm hh => ?_
  refine a_store rfl rfl rfl rfl sz63 rfl hm 0 rfl rfl fun w hm => ?_
  refine rw_done ?_
  refine gn_sq ?_
  refine HW_seq rfl ?_
  refine HW_text (.pure 0 (.pure 1 (.pure 2 .done))) (by kernel_rfl) ?_
  refine rw_p rfl rfl (y_fieldAddr rfl fo63_0) ?_
  refine rw_p rfl rfl (y_load rfl sc3 (hm.nt 0 rfl) rfl) ?_
  refine rw_p rfl rfl (y_assign rfl) ?_
  refine rw_done ?_
  refine gn_sq ?_
  refine HW_block rfl ?_
  refine HW_loopK (ι := List (Nat × Blk) × Nat) rfl (ks := [0, 1, 2, 4]) (.cons rfl (.cons rfl (.cons rfl (.cons rfl .nil)))) (fun x => [(5, .int .i64 x.2)]) (fun x w => I x.1 x.2 w ∧ Pl.sF sz a b ≤ x.2 ∧ x.2 ≤ E ∧ (m1, Blk.row 63 [.int .i64 ((Pl.sF sz a b : Nat) : Int), .int .i64 ((Pl.sN sz a b : Nat) : Int)]) ∈ x.1) (fun x => E - x.2) (F0 ++ _, Pl.sF sz a b) (⟨hext _ _ _ _ _ h0 hm, Nat.le_refl _, by omega, List.mem_append_right _ (List.mem_singleton.2 rfl)⟩) ⟨rfl, trivial⟩ (fun x w hM => ?_)
  obtain ⟨hI, hlo, hk, hF⟩ := hM
  have hm := Mem.start w
  obtain ⟨hR1, hR2⟩ := hrow _ _ _ hI
  have hT := hown _ _ _ hI _ hF rfl
  refine HW_seq rfl ?_
  refine HW_seq rfl ?_
  refine HW_text (.pure 0 (.pure 1 (.act 2 (.pure 3 .done)))) (by kernel_rfl) ?_
  refine rw_p rfl rfl (y_move rfl) ?_
  refine rw_p rfl rfl (y_loadA (s := 2) (vs := [_, _]) rfl ag63 (nowT ((hm.to.same _ (Array.getElem?_eq_some_iff.1 hT).1 id).trans hT)) rfl) ?_
  refine a_call rfl rfl rfl go87 (C.as (v := .int .i64 (E : Int)) (ext_end _ _ _ (by simp only [Pl.I64]; omega)) (by rw [hEc])) fun v w hR => ?_
  obtain ⟨rfl, hE⟩ := hR
  refine ⟨trivial, ?_⟩
  replace hm := hm.ext hE
  refine rw_p rfl rfl (y_lt rfl rfl) ?_
  refine rw_done ?_
  refine gn_sq ?_
  refine HW_cond rfl rfl (fun hc0 => ?_) (fun hc0 => ?_)
  ·
    simp only [decide_eq_true_eq] at hc0
    have hb9 := hbd x.2 (by omega) hlo
    refine HW_skip rfl ?_
    refine gn_sq ?_
    refine HW_seq rfl ?_
    refine HW_block rfl ?_
    refine HW_seq rfl ?_
    refine HW_text (.pure 0 (.pure 1 (.pure 2 (.pure 3 (.pure 4 (.pure 5 (.act 6 (.pure 7 (.pure 8 (.pure 9 (.act 10 (.act 11 (.pure 12 .done))))))))))))) (by kernel_rfl) ?_
    refine rw_p rfl rfl (y_loadA (s := 2) (vs := [_, _]) rfl ag63 (nowT ((hm.to.same _ (Array.getElem?_eq_some_iff.1 hR2).1 id).trans hR2)) rfl) ?_
    refine rw_p rfl rfl (y_move rfl) ?_
    refine rw_p rfl rfl (y_load rfl sc3 (nowT ((hm.to.same _ (Array.getElem?_eq_some_iff.1 hR1).1 id).trans hR1)) rfl) ?_
    refine rw_p rfl rfl (y_mul rfl rfl (mulN (by omega))) ?_
    refine rw_p rfl rfl (y_load rfl sc3 (nowT ((hm.to.same _ (Array.getElem?_eq_some_iff.1 hR1).1 id).trans hR1)) rfl) ?_
    refine rw_p rfl rfl (y_build (cs := [_, _]) z63 ft63 rfl rfl rfl rfl rfl) ?_
    refine a_call rfl rfl rfl go90 (C.as (v := .tuple ⟨[.agg ⟨[.int .i64 ((Pl.pO sz a x.2 : Nat) : Int), .int .i64 ((Pl.pL sz a b x.2 : Nat) : Int)]⟩, .bool true]⟩) (ext_overlap (a : Int) (b : Int) ((x.2 * sz : Nat) : Int) (sz : Int) _ (by omega) (by omega)) (by rw [Pl.part_eq hs hlo (by omega)]; rfl)) fun v w hR => ?_
    obtain ⟨rfl, hE⟩ := hR
    refine ⟨trivial, ?_⟩
    replace hm := hm.ext hE
    refine rw_p rfl rfl (y_move rfl) ?_
    refine rw_p rfl rfl (y_extract rfl rfl) ?_
    refine rw_p rfl rfl (y_extract rfl rfl) ?_
    refine a_alloc rfl rfl z63 hm trivial fun m2 w hg_m2 hm hh => ?_
    refine a_store rfl rfl rfl rfl sz63 rfl hm 0 rfl rfl fun w hm => ?_
    refine rw_p rfl rfl (y_assign rfl) ?_
    refine rw_done ?_
    refine gn_sq ?_
    refine HW_seq rfl ?_
    refine HW_text (.pure 0 (.pure 1 (.pure 2 (.act 3 (.pure 4 .done))))) (by kernel_rfl) ?_
    refine rw_p rfl rfl (y_move rfl) ?_
    refine rw_p rfl rfl (y_move rfl) ?_
    refine rw_p rfl rfl (y_loadA (s := 2) (vs := [_, _]) rfl ag63 (hm.nt 0 rfl) rfl) ?_
    have hI2 := hext _ _ _ _ _ hI hm
    refine a_yield rfl rfl rfl rfl (hy _ _ _ hI2 hlo (by omega)) fun v w hR => ?_
    refine ⟨trivial, ?_⟩
    obtain ⟨go9, rfl, hgo⟩ : ∃ go, v = .bool go ∧ ((go = true ∧ I _ (x.2 + 1) w) ∨ (go = false ∧ Q w)) := hR.elim (fun h => ⟨true, h.1, .inl ⟨rfl, h.2⟩⟩) (fun h => ⟨false, h.1, .inr ⟨rfl, h.2⟩⟩)
    refine rw_p rfl rfl (y_not rfl) ?_
    refine rw_done ?_
    refine gn_sq ?_
    refine HW_cond rfl rfl (fun hc1 => ?_) (fun hc1 => ?_)
    ·
      have hQ : Q w := hgo.elim (fun h => by rw [h.1] at hc1; cases hc1) (fun h => h.2)
      refine HW_ret rfl ?_
      refine gr_bl (gr_sq (gr_lp (gr_bl ?_)))
      refine toR (fin hret rfl .nil .nil ?_)
      exact ⟨rfl, .inr hQ⟩
    ·
      have hI3 := hgo.elim (fun h => h.2) (fun h => by rw [h.1] at hc1; cases hc1)
      refine HW_skip rfl ?_
      refine gn_bl ?_
      refine gn_sq ?_
      refine HW_text (.pure 0 (.pure 1 (.pure 2 .done))) (by kernel_rfl) ?_
      refine rw_p rfl rfl (y_move rfl) ?_
      refine rw_p rfl rfl (y_add rfl rfl (i64w (by omega) (by omega))) ?_
      refine rw_p rfl rfl (y_assign rfl) ?_
      refine rw_done ?_
      exact next (x.1 ++ _, x.2 + 1) (by simp only; omega) ⟨hI3, by simp only; omega, by simp only; omega, by simp [hF]⟩ ⟨nx x.2, rfl, rfl, rfl, rfl, trivial⟩
  ·
    simp only [decide_eq_false_iff_not] at hc0
    have hke : x.2 = E := by omega
    refine HW_exit rfl ?_
    refine gx_sq (gx_lp ?_)
    refine gx_here ?_
    refine toN (fin hnorm rfl .nil .nil ?_)
    exact ⟨rfl, .inl ⟨_, by rw [hE9, ← hke]; exact hext _ _ _ _ _ hI hm⟩⟩

set_option maxHeartbeats 3200000 in
theorem f_read (D : Pl.Dv) (m : Nat) (Z : List (Nat × Blk)) (a b : Nat) (w0 : World) (hZ : OwnZ w0 Z) (hz : DevZ 107 157 5 D m Z) (hon : Pl.onD D (a : Int) (b : Int) = true) : C Tryz.prog 25 [.pointer (some ⟨m, 0, none⟩), .agg ⟨[.int .i64 (a : Int), .int .i64 (b : Int)]⟩] w0 fun v w' => ∃ q c g d, v = .tuple ⟨[.slice q (Pl.rdB D a b).length c, .int .i64 (Pl.rdCode D a b)]⟩ ∧ Acc 5 1 q (Pl.rdB D a b).length c ((Pl.rdB D a b).flatMap encB) g d ∧ Mem w0 w' No [(g, d)] := by
  have hok := hz.ok
  have o1 := hok.sz
  have o4 := hok.max
  have o3 := hok.cnt
  have o7 : D.sz ≤ D.cnt * D.sz := Nat.le_mul_of_pos_left _ o3
  have hv := Pl.onD_iff.1 hon
  have hab : a + b ≤ D.cnt * D.sz := by omega
  have hcl := Pl.contents_len hok
  have hXl : (((Pl.contents D).drop a).take b).length = b := by rw [List.length_take, List.length_drop]; omega
  have hcn := Pl.s_cnt (cnt := D.cnt) (sz := D.sz) (a := a) (b := b) o1 hab o3
  have hrc : Pl.rdCode D a b = if 0 < b ∧ D.dn = true then 18 else 0 := by
    unfold Pl.rdCode
    rw [hon]
    simp only [Bool.true_eq_false, if_false]
    by_cases h9 : 0 < b ∧ D.dn = true
    · rw [if_pos h9, if_pos ⟨by omega, h9.2⟩]
    · rw [if_neg h9, if_neg (fun e => h9 ⟨by omega, e.2⟩)]
  have hrb : Pl.rdCode D a b = 0 → Pl.rdB D a b = ((Pl.contents D).drop a).take b := fun h => by unfold Pl.rdB; rw [if_pos h]; rfl
  have hrb2 : Pl.rdCode D a b ≠ 0 → Pl.rdB D a b = [] := fun h => by unfold Pl.rdB; rw [if_neg h]
  refine C_ofM Tryz.func25 rfl rfl rfl fun κ hret hnorm => ?_
  have hm := Mem.start w0
  refine HW_seq rfl ?_
  refine HW_text (.act 0 (.act 1 (.act 2 (.act 3 .done)))) (by kernel_rfl) ?_
  refine a_box rfl rfl rfl rfl hm trivial fun m1 w hg_m1 hm hh => ?_
  refine a_box rfl rfl rfl rfl hm trivial fun m2 w hg_m2 hm hh => ?_
  refine a_alloc rfl rfl z22 hm trivial fun m3 w hg_m3 hm hh => ?_
  refine a_alloc rfl rfl z34 hm trivial fun m4 w hg_m4 hm hh => ?_
  refine rw_done ?_
  refine gn_sq ?_
  refine HW_seq rfl ?_
  refine HW_seq rfl ?_
  refine HW_text (.pure 0 (.pure 1 (.act 2 (.pure 3 .done)))) (by kernel_rfl) ?_
  refine rw_p rfl rfl (y_load rfl sc27 (hm.nt 3 rfl) rfl) ?_
  refine rw_p rfl rfl (y_loadA (s := 2) (vs := [_, _]) rfl ag63 (hm.nt 2 rfl) rfl) ?_
  refine a_call rfl rfl rfl go51 (C.as (v := .int .i64 0) (f_check D m Z _ (hZ.ext hm.to) hz (a : Int) (b : Int) (by simp only [Pl.I64]; omega) (by simp only [Pl.I64]; omega)) (by rw [if_pos hon])) fun v w hR => ?_
  obtain ⟨rfl, hE⟩ := hR
  refine ⟨trivial, ?_⟩
  replace hm := hm.ext hE
  refine rw_p rfl rfl (y_assign rfl) ?_
  refine rw_done ?_
  refine gn_sq ?_
  refine HW_seq rfl ?_
  refine HW_text (.pure 0 (.pure 1 .done)) (by kernel_rfl) ?_
  refine rw_p rfl rfl (y_move rfl) ?_
  refine rw_p rfl rfl (y_as (c := false) (y_ne rfl rfl) (by decide)) ?_
  refine rw_done ?_
  refine gn_sq ?_
  refine HW_condF rfl rfl rfl ?_
  refine HW_skip rfl ?_
  refine gn_sq ?_
  refine HW_seq rfl ?_
  refine HW_text (.pure 0 (.pure 1 (.act 2 (.act 3 (.act 4 .done))))) (by kernel_rfl) ?_
  refine rw_p rfl rfl (y_fieldAddr rfl fo63_1) ?_
  refine rw_p rfl rfl (y_load rfl sc3 (hm.nt 2 rfl) rfl) ?_
  refine a_make rfl rfl rfl rfl sl22 z5 rfl (by omega) (by omega) (by omega) hm trivial fun g_s w hg_s ha_s hm hh => ?_
  replace ha_s := ha_s.to (show _ = (Pl.half (((Pl.contents D).drop a).take b) b (Pl.rL D.sz a b (Pl.sF D.sz a b))).flatMap encB by rw [Pl.rL_first o1]; unfold Pl.half; rw [List.take_zero, List.nil_append, Nat.sub_zero]; exact repB b)
  refine a_alloc rfl rfl z22 hm trivial fun m5 w hg_m5 hm hh => ?_
  refine a_store rfl rfl rfl rfl sz22 rfl hm 0 rfl rfl fun w hm => ?_
  refine rw_done ?_
  refine gn_sq ?_
  refine HW_seq rfl ?_
  refine HW_seq rfl ?_
  refine HW_draw (.pure 0 (.pure 2 (.act 1 (.cut (.act 3 .done))))) No mix (by kernel_rfl) hm fun w hw hm0 hh => ?_
  have hm := hm0
  refine rw_p rfl rfl (y_load rfl sc27 (hm0.nd 5 rfl id) rfl) ?_
  refine rw_p rfl rfl (y_loadA (s := 2) (vs := [_, _]) rfl ag63 (hm0.nd 4 rfl id) rfl) ?_
  refine a_call rfl rfl rfl go48 (o_size D m Z _ (hZ.ext hm.to) hz) fun v w hR => ?_
  obtain ⟨rfl, hE⟩ := hR
  refine ⟨hh.ext hE, ?_⟩
  replace hm := hm.ext hE
  replace hh := hh.ext hE
  refine a_cut ?_
  refine a_call rfl rfl rfl go52 (f_parts (D.sz : Int) (a : Int) (b : Int) _) fun v w hR => ?_
  obtain ⟨q1, q2, rfl, hmc⟩ := hR
  refine ⟨trivial, ?_⟩
  replace hm := hm.callN hmc
  refine rw_done ?_
  refine gn_sq ?_
  refine HW_block rfl ?_
  refine HW_range rfl rfl go89 hm fun a_ fn r0 l w LB hLB hfr hl_ hs_ hm => ?_
  refine C.mono (f_parts1 D.sz a b q1 q2 l (fun F i w => ∃ b_s, Mem w0 w No ((l, LB .ready none) :: (r0, dblk (some [])) :: (q2, .row 63 [.int .i64 (a : Int), .int .i64 (b : Int)]) :: (q1, .row 3 [.int .i64 (D.sz : Int)]) :: (m5, .row 22 [.slice (some ⟨g_s, 0, none⟩) b b]) :: (g_s, b_s) :: (m4, .row 34 [.int .i64 0]) :: (m3, .row 22 [.slice none 0 0]) :: (m2, .row 63 [.int .i64 (a : Int), .int .i64 (b : Int)]) :: (m1, .row 27 [.pointer (some ⟨m, 0, none⟩)]) :: F) ∧ Acc 5 1 (some ⟨g_s, 0, none⟩) b b ((Pl.half (((Pl.contents D).drop a).take b) b (Pl.rL D.sz a b i)).flatMap encB) g_s b_s ∧ (Pl.sF D.sz a b < i → D.dn = false)) (fun w => ∃ b_s F, Mem w0 w No ((l, LB .done (some .ret)) :: (r0, dblk (some [])) :: (q2, .row 63 [.int .i64 (a : Int), .int .i64 (b : Int)]) :: (q1, .row 3 [.int .i64 (D.sz : Int)]) :: (m5, .row 22 [.slice (some ⟨g_s, 0, none⟩) b b]) :: (g_s, b_s) :: (m4, .row 34 [.int .i64 18]) :: (m3, .row 22 [.slice none 0 0]) :: (m2, .row 63 [.int .i64 (a : Int), .int .i64 (b : Int)]) :: (m1, .row 27 [.pointer (some ⟨m, 0, none⟩)]) :: F) ∧ D.dn = true ∧ 0 < b) [] _ o1 (by omega) (by omega)
    (by rintro F i w ⟨b_s, hm, -⟩; exact ⟨hm.get (k := 3) rfl, hm.get (k := 2) rfl⟩)
    (by rintro F i w w' N ⟨b_s, hm, ha, hd⟩ hc; exact ⟨b_s, Mem.callT (N1 := []) hm hc, ha, hd⟩)
    (by rintro F i w ⟨b_s, hm, -⟩ e he hr; exact hm.own e (by simp [he]) hr)
    (fun F i w hI hlo hhi => ?_) ⟨_, hm, ha_s, fun h => absurd h (Nat.lt_irrefl _)⟩) (fun v w hR => ?_)
  ·
    subst hLB
    obtain ⟨b_s, hm, ha_s, hdn⟩ := hI
    obtain ⟨p1, p2, p3, p4, p5⟩ := Pl.part_bnd (b := b) o1 hlo hhi
    obtain ⟨n1, n2⟩ := Pl.rL_next (b := b) o1 hlo hhi
    have hb0 := (Pl.s_in o1 hlo hhi).1
    have hse := Pl.sec_le (sz := D.sz) (show i < D.cnt by omega)
    have hii : i ≤ i * D.sz := Nat.le_mul_of_pos_right _ o1
    refine Yw.of hfr (hm.get (k := 0) rfl) rfl rfl ?_
    refine HW_seq rfl ?_
    refine HW_text (.pure 0 .done) (by kernel_rfl) ?_
    refine rw_p rfl rfl (y_assign rfl) ?_
    refine rw_done ?_
    refine gn_sq ?_
    refine HW_text (.act 0 (.act 1 .done)) (by kernel_rfl) ?_
    refine a_alloc rfl rfl z63 hm trivial fun m6 w hg_m6 hm hh => ?_
    refine a_store rfl rfl rfl rfl sz63 rfl hm 0 rfl rfl fun w hm => ?_
    refine rw_done ?_
    refine g_begin hm 1 rfl fun w hm => ?_
    refine HW_block rfl ?_
    refine HW_seq rfl ?_
    refine HW_text (.pure 0 (.pure 1 (.act 2 (.pure 3 (.pure 4 (.pure 5 (.pure 6 (.pure 7 .done)))))))) (by kernel_rfl) ?_
    refine rw_p rfl rfl (y_load rfl sc27 (hm.nt 10 rfl) rfl) ?_
    refine rw_p rfl rfl (y_move rfl) ?_
    refine a_call rfl rfl rfl go53 (o_read D m Z _ (hZ.ext hm.to) hz (i : Int)) fun v w hR => ?_
    obtain ⟨p_v, cap_v, g_v, b_v, rfl, ha_v, hmc⟩ := hR
    refine ⟨trivial, ?_⟩
    have hg_v : b_v.real = true → _ := fun hr => (hmc.fresh _ List.mem_cons_self hr).resolve_left id
    replace hm := hm.callN hmc
    refine rw_p rfl rfl (y_move rfl) ?_
    refine rw_p rfl rfl (y_extract rfl rfl) ?_
    refine rw_p rfl rfl (y_extract rfl rfl) ?_
    refine rw_p rfl rfl (y_assign rfl) ?_
    refine rw_p rfl rfl (y_assign rfl) ?_
    refine rw_done ?_
    refine gn_sq ?_
    refine HW_seq rfl ?_
    refine HW_seq rfl ?_
    refine HW_text (.pure 0 (.pure 1 .done)) (by kernel_rfl) ?_
    refine rw_p rfl rfl (y_move rfl) ?_
    refine rw_p rfl rfl (y_ne rfl rfl) ?_
    refine rw_done ?_
    refine gn_sq ?_
    refine HW_cond rfl rfl (fun hc1 => ?_) (fun hc1 => ?_)
    ·
      simp only [decide_eq_true_eq] at hc1
      have hdn1 : D.dn = true := by
        unfold Pl.codeAt at hc1
        by_cases h9 : D.dn = true
        · exact h9
        · rw [if_neg h9, if_neg (by omega)] at hc1; exact absurd rfl hc1
      have hc18 : Pl.codeAt D (i : Int) = 18 := by unfold Pl.codeAt; rw [if_pos hdn1]
      refine HW_seq rfl ?_
      refine HW_text (.pure 0 (.act 1 (.act 2 .done))) (by kernel_rfl) ?_
      refine rw_p rfl rfl (y_move rfl) ?_
      refine a_store rfl rfl rfl rfl sz22 rfl hm 9 rfl rfl fun w hm => ?_
      refine a_store rfl rfl rfl rfl sz34 rfl hm 8 rfl rfl fun w hm => ?_
      rw [hc18] at hm
      refine rw_done ?_
      refine gn_sq ?_
      refine HW_ret rfl ?_
      refine gr_sq (gr_bl ?_)
      refine g_ret hm 2 rfl fun w hm => ?_
      exact .inr ⟨rfl, b_s, _, (hm.pickT [2, 3, 4, 5, 6, 7, 8, 9, 10, 11] 12 rfl), hdn1, hb0⟩
    ·
      simp only [decide_eq_false_iff_not, Decidable.not_not] at hc1
      obtain ⟨hdn0, _, _⟩ := code0 hc1
      rw [hc1, if_pos rfl] at ha_v ⊢
      have hvl := Pl.rdS_len hok (i := i) (by omega)
      have hvle := ha_v.le
      refine HW_skip rfl ?_
      refine gn_sq ?_
      refine HW_draw (.pure 0 (.pure 1 (.pure 2 (.pure 3 (.pure 4 (.pure 5 (.pure 6 (.pure 7 (.pure 8 (.pure 9 (.pure 10 (.pure 11 (.pure 12 (.pure 13 (.pure 14 (.act 15 (.pure 16 (.pure 17 (.pure 18 (.cut (.act 19 .done))))))))))))))))))))) No mix (by kernel_rfl) hm fun w hw hm0 hh => ?_
      have hm := hm0
      refine rw_p rfl rfl (y_load rfl sc22 (hm0.nd 6 rfl id) rfl) ?_
      refine rw_p rfl rfl (y_fieldAddr rfl fo63_0) ?_
      refine rw_p rfl rfl (y_load rfl sc3 (hm0.nd 1 rfl id) rfl) ?_
      refine rw_p rfl rfl (y_fieldAddr rfl fo63_0) ?_
      refine rw_p rfl rfl (y_load rfl sc3 (hm0.nd 10 rfl id) rfl) ?_
      refine rw_p rfl rfl (y_sub rfl rfl (subK _ (by omega) (by omega))) ?_
      refine rw_p rfl rfl (y_slice (ln := (Pl.pO D.sz a i - a)) (hn := b) rfl sl22 ⟨_, rfl⟩ rfl (by omega) (by omega) (fun _ ad e => by cases e; rfl)) ?_
      refine rw_p rfl rfl (y_fieldAddr rfl fo63_1) ?_
      refine rw_p rfl rfl (y_load rfl sc3 (hm0.nd 1 rfl id) rfl) ?_
      refine rw_p rfl rfl (y_v (y_slice (ln := 0) (hn := (Pl.pL D.sz a b i)) rfl sl22 rfl ⟨_, rfl⟩ (by omega) (by omega) (fun h ad e => slp_spot (fun _ ad e => by cases e; rfl) (by omega) e)) (show _ = Value.slice (slp (some ⟨g_s, 0, none⟩) b (Pl.pO D.sz a i - a) 1) (Pl.pL D.sz a b i) (b - (Pl.pO D.sz a i - a)) by rw [slp_zero' (fun h ad e => slp_spot (fun _ ad e => by cases e; rfl) (by omega) e)]; rfl)) ?_
      refine rw_p rfl rfl (y_move rfl) ?_
      refine rw_p rfl rfl (y_fieldAddr rfl fo63_0) ?_
      refine rw_p rfl rfl (y_load rfl sc3 (hm0.nd 1 rfl id) rfl) ?_
      refine rw_p rfl rfl (y_move rfl) ?_
      refine rw_p rfl rfl (y_load rfl sc27 (hm0.nd 11 rfl id) rfl) ?_
      refine a_call rfl rfl rfl go48 (o_size D m Z _ (hZ.ext hm.to) hz) fun v w hR => ?_
      obtain ⟨rfl, hE⟩ := hR
      refine ⟨hh.ext hE, ?_⟩
      replace hm := hm.ext hE
      replace hh := hh.ext hE
      refine rw_p rfl rfl (y_mul rfl rfl (mulN (by omega))) ?_
      refine rw_p rfl rfl (y_sub rfl rfl (subK _ (by omega) (by omega))) ?_
      refine rw_p rfl rfl (y_slice (ln := (Pl.pO D.sz a i - i * D.sz)) (hn := (Pl.rdS D (i : Int)).length) rfl sl22 ⟨_, rfl⟩ rfl (by omega) (by omega) (fun h => ha_v.spot (by omega))) ?_
      refine a_cut ?_
      refine a_copyL (o := Pl.pO D.sz a i - a) (src := ((((Pl.rdS D (i : Int)).drop (Pl.pO D.sz a i - i * D.sz)).take (Pl.pL D.sz a b i)).flatMap encB)) rfl rfl rfl rfl rfl sl22 (by omega) ((ha_v.rd hm 0 rfl).sub hvle) (by rw [lenB, List.length_take, List.length_drop]; omega) (oneB _) ha_s hm 7 rfl fun b_s w ha_s hm => ?_
      rw [upds_put' (by rw [Pl.half_len hXl (by unfold Pl.rL; omega), List.length_take, List.length_drop]; omega), show Pl.rdS D (i : Int) = ((Pl.contents D).drop (i * D.sz)).take D.sz from rfl, Pl.half_next o1 (by rw [hcl]; exact hab) hlo hhi] at ha_s
      refine rw_done ?_
      refine gn_bl ?_
      refine g_end hm 2 rfl fun w hm => ?_
      refine .inl ⟨rfl, b_s, (hm.pickT [2, 3, 4, 5, 6, 7, 8, 9, 10, 11] 12 rfl), ?_, fun _ => hdn0⟩
      exact ha_s
  ·
    subst hLB
    obtain ⟨-, ⟨F, b_s, hm, ha_s, hdn⟩ | ⟨b_s, F, hm, hdn, hb0⟩⟩ := hR
    ·
      rw [Pl.rL_last o1] at ha_s
      have hc0 : Pl.rdCode D a b = 0 := by rw [hrc, if_neg]; rintro ⟨h1, h2⟩; have := hdn (by unfold Pl.sN; rw [if_neg (by omega)]; omega); rw [h2] at this; cases this
      have hrB := hrb hc0
      replace ha_s := ha_s.to (show _ = (Pl.rdB D a b).flatMap encB by rw [hrB]; unfold Pl.half; rw [Nat.sub_self, List.replicate_zero, List.append_nil, List.take_of_length_le (by rw [hXl]; exact Nat.le_refl _)])
      have hrl : (Pl.rdB D a b).length = b := by rw [hrB, hXl]
      refine ⟨.ready, none, nofun, hm.get (k := 0) rfl, fun w4 hw4 => ?_⟩
      replace hm := g_over hm hw4
      refine gn_bl ?_
      refine gn_sq ?_
      refine HW_seq rfl ?_
      refine HW_text (.pure 0 (.act 1 (.act 2 .done))) (by kernel_rfl) ?_
      refine rw_p rfl rfl (y_load rfl sc22 (hm.nt 3 rfl) rfl) ?_
      refine a_store rfl rfl rfl rfl sz22 rfl hm 6 rfl rfl fun w hm => ?_
      refine a_store rfl rfl rfl rfl sz34 rfl hm 5 rfl rfl fun w hm => ?_
      refine rw_done ?_
      refine gn_sq ?_
      refine HW_ret rfl ?_
      refine toR (fin1 hret rfl hm 0 rfl .more fun w hm => ⟨(.cell rfl (run_loadVar_s sc22 (hm.get (k := 6) rfl) rfl) (.cell rfl (run_loadVar_s sc34 (hm.get (k := 5) rfl) rfl) .nil)), ?_⟩)
      exact ⟨_, b, g_s, b_s, by rw [hrl, hc0], by rw [hrl]; exact ha_s, (hm.pick [4] rfl)⟩
    ·
      have hc1 : Pl.rdCode D a b = 18 := by rw [hrc, if_pos ⟨hb0, hdn⟩]
      have hrB := hrb2 (by rw [hc1]; decide)
      refine ⟨.done, some .ret, nofun, hm.get (k := 0) rfl, fun w4 hw4 => ?_⟩
      replace hm := g_over hm hw4
      refine HW_ret rfl ?_
      refine gr_bl (gr_sq ?_)
      refine toR (fin1 hret rfl hm 0 rfl .more fun w hm => ⟨(.cell rfl (run_loadVar_s sc22 (hm.get (k := 6) rfl) rfl) (.cell rfl (run_loadVar_s sc34 (hm.get (k := 5) rfl) rfl) .nil)), ?_⟩)
      exact ⟨none, 0, 0, .gap, by rw [hrB, hc1]; rfl, by rw [hrB]; exact .nil _ _ _ _, (hm.gapIn.pick [0] rfl)⟩

theorem f_readX (D : Pl.Dv) (m : Nat) (Z : List (Nat × Blk)) (w0 : World) (hZ : OwnZ w0 Z) (hz : DevZ 107 157 5 D m Z) (a b : Int) (ha : Pl.I64 a) (hb : Pl.I64 b) (hon : Pl.onD D a b = false) : C Tryz.prog 25 [.pointer (some ⟨m, 0, none⟩), .agg ⟨[.int .i64 a, .int .i64 b]⟩] w0 fun v w' => ∃ q c g d, v = .tuple ⟨[.slice q 0 c, .int .i64 2]⟩ ∧ Acc 5 1 q 0 c [] g d ∧ Mem w0 w' No [(g, d)] := by
  refine C_ofM Tryz.func25 rfl rfl rfl fun κ hret hnorm => ?_
  have hm := Mem.start w0
  refine HW_seq rfl ?_
  refine HW_text (.act 0 (.act 1 (.act 2 (.act 3 .done)))) (by kernel_rfl) ?_
  refine a_box rfl rfl rfl rfl hm trivial fun m1 w hg_m1 hm hh => ?_
  refine a_box rfl rfl rfl rfl hm trivial fun m2 w hg_m2 hm hh => ?_
  refine a_alloc rfl rfl z22 hm trivial fun m3 w hg_m3 hm hh => ?_
  refine a_alloc rfl rfl z34 hm trivial fun m4 w hg_m4 hm hh => ?_
  refine rw_done ?_
  refine gn_sq ?_
  refine HW_seq rfl ?_
  refine HW_seq rfl ?_
  refine HW_text (.pure 0 (.pure 1 (.act 2 (.pure 3 .done)))) (by kernel_rfl) ?_
  refine rw_p rfl rfl (y_load rfl sc27 (hm.nt 3 rfl) rfl) ?_
  refine rw_p rfl rfl (y_loadA (s := 2) (vs := [_, _]) rfl ag63 (hm.nt 2 rfl) rfl) ?_
  refine a_call rfl rfl rfl go51 (C.as (v := .int .i64 2) (f_check D m Z _ (hZ.ext hm.to) hz a b ha hb) (by rw [hon]; rfl)) fun v w hR => ?_
  obtain ⟨rfl, hE⟩ := hR
  refine ⟨trivial, ?_⟩
  replace hm := hm.ext hE
  refine rw_p rfl rfl (y_assign rfl) ?_
  refine rw_done ?_
  refine gn_sq ?_
  refine HW_seq rfl ?_
  refine HW_text (.pure 0 (.pure 1 .done)) (by kernel_rfl) ?_
  refine rw_p rfl rfl (y_move rfl) ?_
  refine rw_p rfl rfl (y_as (c := true) (y_ne rfl rfl) (by decide)) ?_
  refine rw_done ?_
  refine gn_sq ?_
  refine HW_condT rfl rfl rfl ?_
  refine HW_seq rfl ?_
  refine HW_text (.pure 0 (.act 1 (.act 2 .done))) (by kernel_rfl) ?_
  refine rw_p rfl rfl (y_move rfl) ?_
  refine a_store rfl rfl rfl rfl sz22 rfl hm 1 rfl rfl fun w hm => ?_
  refine a_store rfl rfl rfl rfl sz34 rfl hm 0 rfl rfl fun w hm => ?_
  refine rw_done ?_
  refine gn_sq ?_
  refine HW_ret rfl ?_
  refine gr_sq ?_
  refine toR (fin0 hret rfl (.cell rfl (run_loadVar_s sc22 (hm.get (k := 1) rfl) rfl) (.cell rfl (run_loadVar_s sc34 (hm.get (k := 0) rfl) rfl) .nil)) .more ?_)
  exact ⟨none, 0, 0, .gap, rfl, .nil _ _ _ _, (hm.gapIn.pick [0] rfl)⟩

theorem f_readN (a b : Int) (w0 : World) : C Tryz.prog 25 [.pointer none, .agg ⟨[.int .i64 a, .int .i64 b]⟩] w0 fun v w' => (∃ x, v = .tuple ⟨[x, .int .i64 1]⟩) ∧ Ext No w0 w' := by
  refine C_ofM Tryz.func25 rfl rfl rfl fun κ hret hnorm => ?_
  have hm := Mem.start w0
  refine HW_seq rfl ?_
  refine HW_text (.act 0 (.act 1 (.act 2 (.act 3 .done)))) (by kernel_rfl) ?_
  refine a_box rfl rfl rfl rfl hm trivial fun m1 w hg_m1 hm hh => ?_
  refine a_box rfl rfl rfl rfl hm trivial fun m2 w hg_m2 hm hh => ?_
  refine a_alloc rfl rfl z22 hm trivial fun m3 w hg_m3 hm hh => ?_
  refine a_alloc rfl rfl z34 hm trivial fun m4 w hg_m4 hm hh => ?_
  refine rw_done ?_
  refine gn_sq ?_
  refine HW_seq rfl ?_
  refine HW_seq rfl ?_
  refine HW_text (.pure 0 (.pure 1 (.act 2 (.pure 3 .done)))) (by kernel_rfl) ?_
  refine rw_p rfl rfl (y_load rfl sc27 (hm.nt 3 rfl) rfl) ?_
  refine rw_p rfl rfl (y_loadA (s := 2) (vs := [_, _]) rfl ag63 (hm.nt 2 rfl) rfl) ?_
  refine a_call rfl rfl rfl go51 (f_checkN _ _) fun v w hR => ?_
  obtain ⟨rfl, hE⟩ := hR
  refine ⟨trivial, ?_⟩
  replace hm := hm.ext hE
  refine rw_p rfl rfl (y_assign rfl) ?_
  refine rw_done ?_
  refine gn_sq ?_
  refine HW_seq rfl ?_
  refine HW_text (.pure 0 (.pure 1 .done)) (by kernel_rfl) ?_
  refine rw_p rfl rfl (y_move rfl) ?_
  refine rw_p rfl rfl (y_as (c := true) (y_ne rfl rfl) (by decide)) ?_
  refine rw_done ?_
  refine gn_sq ?_
  refine HW_condT rfl rfl rfl ?_
  refine HW_seq rfl ?_
  refine HW_text (.pure 0 (.act 1 (.act 2 .done))) (by kernel_rfl) ?_
  refine rw_p rfl rfl (y_move rfl) ?_
  refine a_store rfl rfl rfl rfl sz22 rfl hm 1 rfl rfl fun w hm => ?_
  refine a_store rfl rfl rfl rfl sz34 rfl hm 0 rfl rfl fun w hm => ?_
  refine rw_done ?_
  refine gn_sq ?_
  refine HW_ret rfl ?_
  refine gr_sq ?_
  refine toR (fin0 hret rfl (.cell rfl (run_loadVar_s sc22 (hm.get (k := 1) rfl) rfl) (.cell rfl (run_loadVar_s sc34 (hm.get (k := 0) rfl) rfl) .nil)) .more ?_)
  exact ⟨⟨_, rfl⟩, hm.to⟩

theorem f_readA (D : Pl.Dv) (m : Nat) (Z : List (Nat × Blk)) (w0 : World) (hZ : OwnZ w0 Z) (hz : DevZ 107 157 5 D m Z) (a b : Int) (ha : Pl.I64 a) (hb : Pl.I64 b) : C Tryz.prog 25 [.pointer (some ⟨m, 0, none⟩), .agg ⟨[.int .i64 a, .int .i64 b]⟩] w0 fun v w' => ∃ q c g d, v = .tuple ⟨[.slice q (Pl.rdB D a b).length c, .int .i64 (Pl.rdCode D a b)]⟩ ∧ Acc 5 1 q (Pl.rdB D a b).length c ((Pl.rdB D a b).flatMap encB) g d ∧ Mem w0 w' No [(g, d)] := by
  cases hon : Pl.onD D a b with
  | true =>
    have hv := Pl.onD_iff.1 hon
    obtain ⟨x, rfl⟩ : ∃ x : Nat, a = x := ⟨a.toNat, by omega⟩
    obtain ⟨y, rfl⟩ : ∃ y : Nat, b = y := ⟨b.toNat, by omega⟩
    exact f_read D m Z x y w0 hZ hz hon
  | false =>
    have hc : Pl.rdCode D a b = 2 := by unfold Pl.rdCode; rw [hon]; rfl
    have hB : Pl.rdB D a b = [] := by unfold Pl.rdB; rw [hc]; rfl
    rw [hB, hc]
    exact f_readX D m Z w0 hZ hz a b ha hb hon

set_option maxHeartbeats 3200000 in
theorem f_write (D : Pl.Dv) (m : Nat) (Z : List (Nat × Blk)) (a : Nat) (q : Option Addr) (cq : Nat) (ps : List SB) (BB : List UInt8) (w0 : World) (hZ : OwnZ w0 Z) (hz : DevZ 107 157 5 D m Z) (hon : Pl.onD D (a : Int) (BB.length : Int) = true) (hq : Rd w0 q (ps.flatMap encS)) (hps : ∀ s ∈ ps, Rd w0 s.p (s.bs.flatMap encB)) (hl : ps.length ≤ 4611686018427387903) (hBB : ps.flatMap (·.bs) = BB) (hb : BB.length ≤ 140737488355328) (hcl : D.ca.length + D.cnt ≤ 1000000000) : C Tryz.prog 37 [.pointer (some ⟨m, 0, none⟩), .int .i64 (a : Int), .slice q ps.length cq] w0 fun v w' => v = .int .i64 (Pl.wrS a BB (Pl.sN D.sz a BB.length) (Pl.sF D.sz a BB.length) D).1 ∧ ∃ Z', DevZ 107 157 5 (Pl.wrS a BB (Pl.sN D.sz a BB.length) (Pl.sF D.sz a BB.length) D).2 m Z' ∧ Mem w0 w' (Mn (reals Z)) Z' := by
  have hok := hz.ok
  have o1 := hok.sz
  have o4 := hok.max
  have o3 := hok.cnt
  have o7 : D.sz ≤ D.cnt * D.sz := Nat.le_mul_of_pos_left _ o3
  have hv := Pl.onD_iff.1 hon
  have hab : a + BB.length ≤ D.cnt * D.sz := by omega
  have hcn := Pl.s_cnt (cnt := D.cnt) (sz := D.sz) (a := a) (b := BB.length) o1 hab o3
  have ha : Pl.I64 (a : Int) := by simp only [Pl.I64]; omega
  refine C_ofM Tryz.func37 rfl rfl rfl fun κ hret hnorm => ?_
  have hm := Mem.start w0
  refine HW_seq rfl ?_
  refine HW_text (.act 0 (.act 1 (.act 2 .done))) (by kernel_rfl) ?_
  refine a_box rfl rfl rfl rfl hm trivial fun m1 w hg_m1 hm hh => ?_
  refine a_box rfl rfl rfl rfl hm trivial fun m2 w hg_m2 hm hh => ?_
  refine a_alloc rfl rfl z34 hm trivial fun m3 w hg_m3 hm hh => ?_
  refine rw_done ?_
  refine gn_sq ?_
  refine HW_seq rfl ?_
  refine HW_text (.pure 0 (.act 1 (.act 2 (.act 3 .done)))) (by kernel_rfl) ?_
  refine rw_p rfl rfl (y_move rfl) ?_
  refine a_call rfl rfl rfl go35 (concat_b q cq ps _ (hq.ext0 hm.to) (fun s hs => (hps s hs).ext0 hm.to) hl (by rw [hBB]; exact hb)) fun v w hR => ?_
  obtain ⟨p_s, n_s, cap_s, g_s, b_s, rfl, ha_s, hmc⟩ := hR
  refine ⟨trivial, ?_⟩
  have hns := ha_s.lenB
  replace hm := hm.callN hmc
  rw [hBB] at ha_s hns
  refine a_alloc rfl rfl z22 hm trivial fun m4 w hg_m4 hm hh => ?_
  refine a_store rfl rfl rfl rfl sz22 rfl hm 0 rfl rfl fun w hm => ?_
  refine rw_done ?_
  refine gn_sq ?_
  refine HW_seq rfl ?_
  refine HW_text (.pure 0 (.pure 1 (.pure 2 (.pure 3 (.act 4 (.act 5 .done)))))) (by kernel_rfl) ?_
  refine rw_p rfl rfl (y_load rfl sc3 (hm.nt 3 rfl) rfl) ?_
  refine rw_p rfl rfl (y_load rfl sc22 (hm.nt 0 rfl) rfl) ?_
  refine rw_p rfl rfl (y_len rfl rfl sl22) ?_
  refine rw_p rfl rfl (y_v (y_build (cs := [_, _]) z63 ft63 rfl rfl rfl rfl rfl) (show _ = Value.agg ⟨[.int .i64 (a : Int), .int .i64 (BB.length : Int)]⟩ by rw [hns])) ?_
  refine a_alloc rfl rfl z63 hm trivial fun m5 w hg_m5 hm hh => ?_
  refine a_store rfl rfl rfl rfl sz63 rfl hm 0 rfl rfl fun w hm => ?_
  refine rw_done ?_
  refine gn_sq ?_
  refine HW_seq rfl ?_
  refine HW_seq rfl ?_
  refine HW_text (.pure 0 (.pure 1 (.act 2 (.pure 3 .done)))) (by kernel_rfl) ?_
  refine rw_p rfl rfl (y_load rfl sc27 (hm.nt 5 rfl) rfl) ?_
  refine rw_p rfl rfl (y_loadA (s := 2) (vs := [_, _]) rfl ag63 (hm.nt 0 rfl) rfl) ?_
  refine a_call rfl rfl rfl go51 (C.as (v := .int .i64 0) (f_check D m Z _ (hZ.ext hm.to) hz a (BB.length : Int) ha (by simp only [Pl.I64]; omega)) (by rw [if_pos hon])) fun v w hR => ?_
  obtain ⟨rfl, hE⟩ := hR
  refine ⟨trivial, ?_⟩
  replace hm := hm.ext hE
  refine rw_p rfl rfl (y_assign rfl) ?_
  refine rw_done ?_
  refine gn_sq ?_
  refine HW_seq rfl ?_
  refine HW_text (.pure 0 (.pure 1 .done)) (by kernel_rfl) ?_
  refine rw_p rfl rfl (y_move rfl) ?_
  refine rw_p rfl rfl (y_as (c := false) (y_ne rfl rfl) (by decide)) ?_
  refine rw_done ?_
  refine gn_sq ?_
  refine HW_condF rfl rfl rfl ?_
  refine HW_skip rfl ?_
  refine gn_sq ?_
  refine HW_seq rfl ?_
  refine HW_seq rfl ?_
  refine HW_draw (.pure 0 (.pure 2 (.act 1 (.cut (.act 3 .done))))) No mix (by kernel_rfl) hm fun w hw hm0 hh => ?_
  have hm := hm0
  refine rw_p rfl rfl (y_load rfl sc27 (hm0.nd 5 rfl id) rfl) ?_
  refine rw_p rfl rfl (y_loadA (s := 2) (vs := [_, _]) rfl ag63 (hm0.nd 0 rfl id) rfl) ?_
  refine a_call rfl rfl rfl go48 (o_size D m Z _ (hZ.ext hm.to) hz) fun v w hR => ?_
  obtain ⟨rfl, hE⟩ := hR
  refine ⟨hh.ext hE, ?_⟩
  replace hm := hm.ext hE
  replace hh := hh.ext hE
  refine a_cut ?_
  refine a_call rfl rfl rfl go52 (f_parts (D.sz : Int) (a : Int) (BB.length : Int) _) fun v w hR => ?_
  obtain ⟨q1, q2, rfl, hmc⟩ := hR
  refine ⟨trivial, ?_⟩
  replace hm := hm.callN hmc
  refine rw_done ?_
  refine gn_sq ?_
  refine HW_block rfl ?_
  replace hm := hm.withZ hZ
  refine HW_range rfl rfl go89 hm fun a_ fn r0 l w LB hLB hfr hl_ hs_ hm => ?_
  refine C.mono (f_parts1 D.sz a BB.length q1 q2 l (fun F i w => ∃ D9 Z9, Mem w0 w (Mn (reals Z)) ((l, LB .ready none) :: (r0, dblk (some [])) :: (q2, .row 63 [.int .i64 (a : Int), .int .i64 (BB.length : Int)]) :: (q1, .row 3 [.int .i64 (D.sz : Int)]) :: (m5, .row 63 [.int .i64 (a : Int), .int .i64 (BB.length : Int)]) :: (m4, .row 22 [.slice p_s n_s cap_s]) :: (g_s, b_s) :: (m3, .row 34 [.int .i64 0]) :: (m2, .row 3 [.int .i64 (a : Int)]) :: (m1, .row 27 [.pointer (some ⟨m, 0, none⟩)]) :: (Z9 ++ F)) ∧ DevZ 107 157 5 D9 m Z9 ∧ (Pl.wrS a BB (Pl.sN D.sz a BB.length) (Pl.sF D.sz a BB.length) D) = Pl.wrS a BB ((Pl.sF D.sz a BB.length + Pl.sN D.sz a BB.length) - i) i D9 ∧ D9.sz = D.sz ∧ D9.cnt = D.cnt ∧ D9.ca.length + ((Pl.sF D.sz a BB.length + Pl.sN D.sz a BB.length) - i) ≤ 1000000000) (fun w => ∃ D9 Z9 F c9, Mem w0 w (Mn (reals Z)) ((l, LB .done (some .ret)) :: (r0, dblk (some [])) :: (q2, .row 63 [.int .i64 (a : Int), .int .i64 (BB.length : Int)]) :: (q1, .row 3 [.int .i64 (D.sz : Int)]) :: (m5, .row 63 [.int .i64 (a : Int), .int .i64 (BB.length : Int)]) :: (m4, .row 22 [.slice p_s n_s cap_s]) :: (g_s, b_s) :: (m3, .row 34 [.int .i64 c9]) :: (m2, .row 3 [.int .i64 (a : Int)]) :: (m1, .row 27 [.pointer (some ⟨m, 0, none⟩)]) :: (Z9 ++ F)) ∧ DevZ 107 157 5 D9 m Z9 ∧ (Pl.wrS a BB (Pl.sN D.sz a BB.length) (Pl.sF D.sz a BB.length) D) = (c9, D9)) [] _ o1 (by omega) (by omega)
    (by rintro F i w ⟨D9, Z9, hm, -⟩; exact ⟨hm.get (k := 3) rfl, hm.get (k := 2) rfl⟩)
    (by rintro F i w w' N ⟨D9, Z9, hm, hz9, hR9, h1, h2, h3⟩ hc; exact ⟨D9, Z9, Mem.callT4 (A := [_, _, _, _, _, _, _, _, _, _]) hm hc, hz9, hR9, h1, h2, h3⟩)
    (by rintro F i w ⟨D9, Z9, hm, -⟩ e he hr; exact hm.own e (by simp [he]) hr)
    (fun F i w hI hlo hhi => ?_) ⟨D, Z, by rw [List.append_nil]; exact hm, hz, by rw [Nat.add_sub_cancel_left], rfl, rfl, by omega⟩) (fun v w hR => ?_)
  ·
    subst hLB
    obtain ⟨D9, Z9, hm, hz9, hR9, hsz, hct, hca⟩ := hI
    obtain ⟨p1, p2, p3, p4, p5⟩ := Pl.part_bnd (b := BB.length) o1 hlo hhi
    have hse := Pl.sec_le (sz := D.sz) (show i < D.cnt by omega)
    have hii : i ≤ i * D.sz := Nat.le_mul_of_pos_right _ o1
    refine Yw.of hfr (hm.get (k := 0) rfl) rfl rfl ?_
    refine HW_seq rfl ?_
    refine HW_text (.pure 0 .done) (by kernel_rfl) ?_
    refine rw_p rfl rfl (y_assign rfl) ?_
    refine rw_done ?_
    refine gn_sq ?_
    refine HW_text (.act 0 (.act 1 .done)) (by kernel_rfl) ?_
    refine a_alloc rfl rfl z63 hm trivial fun m6 w hg_m6 hm hh => ?_
    refine a_store rfl rfl rfl rfl sz63 rfl hm 0 rfl rfl fun w hm => ?_
    refine rw_done ?_
    refine g_begin hm 1 rfl fun w hm => ?_
    refine HW_block rfl ?_
    refine HW_seq rfl ?_
    refine HW_text (.pure 0 (.pure 1 (.act 2 (.pure 3 (.pure 4 (.pure 5 (.pure 6 (.pure 7 .done)))))))) (by kernel_rfl) ?_
    refine rw_p rfl rfl (y_load rfl sc27 (hm.nt 10 rfl) rfl) ?_
    refine rw_p rfl rfl (y_move rfl) ?_
    refine a_call rfl rfl rfl go53 (o_read D9 m Z9 _ (OwnZ.mid (A := [_, _, _, _, _, _, _, _, _, _, _]) hm.ownZ) hz9 (i : Int)) fun v w hR => ?_
    obtain ⟨p_v, cap_v, g_v, b_v, rfl, ha_v, hmc⟩ := hR
    refine ⟨trivial, ?_⟩
    have hg_v : b_v.real = true → _ := fun hr => (hmc.fresh _ List.mem_cons_self hr).resolve_left id
    replace hm := hm.callN hmc
    refine rw_p rfl rfl (y_move rfl) ?_
    refine rw_p rfl rfl (y_extract rfl rfl) ?_
    refine rw_p rfl rfl (y_extract rfl rfl) ?_
    refine rw_p rfl rfl (y_assign rfl) ?_
    refine rw_p rfl rfl (y_assign rfl) ?_
    refine rw_done ?_
    refine gn_sq ?_
    refine HW_seq rfl ?_
    refine HW_seq rfl ?_
    refine HW_text (.pure 0 (.pure 1 .done)) (by kernel_rfl) ?_
    refine rw_p rfl rfl (y_move rfl) ?_
    refine rw_p rfl rfl (y_ne rfl rfl) ?_
    refine rw_done ?_
    refine gn_sq ?_
    refine HW_cond rfl rfl (fun hc1 => ?_) (fun hc1 => ?_)
    ·
      simp only [decide_eq_true_eq] at hc1
      have hRR : (Pl.wrS a BB (Pl.sN D.sz a BB.length) (Pl.sF D.sz a BB.length) D) = (Pl.codeAt D9 (i : Int), D9) := by rw [hR9, show (Pl.sF D.sz a BB.length + Pl.sN D.sz a BB.length) - i = ((Pl.sF D.sz a BB.length + Pl.sN D.sz a BB.length) - (i + 1)) + 1 by omega]; unfold Pl.wrS; rw [if_pos hc1]
      refine HW_seq rfl ?_
      refine HW_text (.pure 0 (.act 1 .done)) (by kernel_rfl) ?_
      refine rw_p rfl rfl (y_move rfl) ?_
      refine a_store rfl rfl rfl rfl sz34 rfl hm 9 rfl rfl fun w hm => ?_
      refine rw_done ?_
      refine gn_sq ?_
      refine HW_ret rfl ?_
      refine gr_sq (gr_bl ?_)
      refine g_ret hm 2 rfl fun w hm => ?_
      first | exact .inr ⟨rfl, _, Z2, F, _, (hm.pickT [2, 3, 4, 5, 6, 7, 8, 9, 10, 11] 12 rfl), hz2, hRR⟩ | exact .inr ⟨rfl, _, Z9, F, _, (hm.pickT [2, 3, 4, 5, 6, 7, 8, 9, 10, 11] 12 rfl), hz9, hRR⟩
    ·
      simp only [decide_eq_false_iff_not, Decidable.not_not] at hc1
      have hvl : (Pl.rdS D9 (i : Int)).length = D.sz := (Pl.rdS_len hz9.ok (i := i) (by omega)).trans hsz
      rw [hc1, if_pos rfl, hvl] at ha_v ⊢
      have hvle := ha_v.le
      have hsle := ha_s.le
      rw [hns] at ha_s hsle
      refine HW_skip rfl ?_
      refine gn_sq ?_
      refine HW_seq rfl ?_
      refine HW_draw (.pure 0 (.pure 1 (.pure 2 (.pure 3 (.pure 4 (.pure 9 (.pure 10 (.pure 11 (.pure 12 (.pure 13 (.pure 14 (.pure 15 (.pure 16 (.pure 17 (.act 5 (.pure 6 (.pure 7 (.pure 8 (.cut (.act 18 .done)))))))))))))))))))) No mix (by kernel_rfl) hm fun w hw hm0 hh => ?_
      have hm := hm0
      refine rw_p rfl rfl (y_move rfl) ?_
      refine rw_p rfl rfl (y_fieldAddr rfl fo63_0) ?_
      refine rw_p rfl rfl (y_load rfl sc3 (hm0.nd 1 rfl id) rfl) ?_
      refine rw_p rfl rfl (y_move rfl) ?_
      refine rw_p rfl rfl (y_load rfl sc27 (hm0.nd 11 rfl id) rfl) ?_
      refine rw_p rfl rfl (y_load rfl sc22 (hm0.nd 7 rfl id) rfl) ?_
      refine rw_p rfl rfl (y_fieldAddr rfl fo63_0) ?_
      refine rw_p rfl rfl (y_load rfl sc3 (hm0.nd 1 rfl id) rfl) ?_
      refine rw_p rfl rfl (y_load rfl sc3 (hm0.nd 10 rfl id) rfl) ?_
      refine rw_p rfl rfl (y_sub rfl rfl (subK _ (by omega) (by omega))) ?_
      refine rw_p rfl rfl (y_slice (ln := (Pl.pO D.sz a i - a)) (hn := n_s) rfl sl22 ⟨_, rfl⟩ rfl (by omega) (by omega) (fun h => ha_s.spot (by omega))) ?_
      refine rw_p rfl rfl (y_fieldAddr rfl fo63_1) ?_
      refine rw_p rfl rfl (y_load rfl sc3 (hm0.nd 1 rfl id) rfl) ?_
      refine rw_p rfl rfl (y_v (y_slice (ln := 0) (hn := (Pl.pL D.sz a BB.length i)) rfl sl22 rfl ⟨_, rfl⟩ (by omega) (by omega) (fun h ad e => slp_spot (fun h2 => ha_s.spot (by omega)) (by omega) e)) (show _ = Value.slice (slp p_s cap_s (Pl.pO D.sz a i - a) 1) (Pl.pL D.sz a BB.length i) (cap_s - (Pl.pO D.sz a i - a)) by rw [slp_slp0 ha_s.spot]; rfl)) ?_
      refine a_call rfl rfl rfl go48 (C.as (v := .int .i64 (D.sz : Int)) (o_size D9 m Z9 _ (OwnZ.mid (A := [_, _, _, _, _, _, _, _, _, _, _, _]) hm.ownZ) hz9) (by rw [hsz])) fun v w hR => ?_
      obtain ⟨rfl, hE⟩ := hR
      refine ⟨hh.ext hE, ?_⟩
      replace hm := hm.ext hE
      replace hh := hh.ext hE
      refine rw_p rfl rfl (y_mul rfl rfl (mulN (by omega))) ?_
      refine rw_p rfl rfl (y_sub rfl rfl (subK _ (by omega) (by omega))) ?_
      refine rw_p rfl rfl (y_slice (ln := (Pl.pO D.sz a i - i * D.sz)) (hn := D.sz) rfl sl22 ⟨_, rfl⟩ rfl (by omega) (by omega) (fun h => ha_v.spot (by omega))) ?_
      refine a_cut ?_
      refine a_copyL (o := Pl.pO D.sz a i - i * D.sz) (src := (((BB.drop (Pl.pO D.sz a i - a)).take (Pl.pL D.sz a BB.length i)).flatMap encB)) rfl rfl rfl rfl rfl sl22 (by omega) ((ha_s.rd hm 8 rfl).sub hsle) (by rw [lenB, List.length_take, List.length_drop]; omega) (oneB _) ha_v hm 0 rfl fun b_v w ha_v hm => ?_
      rw [upds_put' (by rw [hvl, List.length_take, List.length_drop]; omega), Pl.secX_put o1 hvl hlo hhi] at ha_v
      refine rw_done ?_
      refine gn_sq ?_
      refine HW_seq rfl ?_
      refine HW_text (.pure 0 (.pure 1 (.pure 2 (.act 3 (.pure 4 .done))))) (by kernel_rfl) ?_
      refine rw_p rfl rfl (y_load rfl sc27 (hm.nt 11 rfl) rfl) ?_
      refine rw_p rfl rfl (y_move rfl) ?_
      refine rw_p rfl rfl (y_move rfl) ?_
      refine a_call rfl rfl rfl go75 (C.eqv (o_write D9 m Z9 _ (OwnZ.mid (A := [_, _, _, _, _, _, _, _, _, _, _, _]) hm.ownZ) hz9 p_v cap_v (Pl.secX D.sz (Pl.rdS D9 (i : Int)) a BB i) (i : Int) (ha_v.rd hm 0 rfl) (fun h ad e h9 => hm.notR (A := [_, _, _, _, _, _, _, _, _, _, _, _]) ha_v 0 rfl h ad e (Mn_left h9)) (by rw [Pl.secX_len]; exact hvle) (by omega)) (by rw [Pl.secX_len]; rfl)) fun v w hR => ?_
      obtain ⟨rfl, Z2, hz2, hmc⟩ := hR
      refine ⟨trivial, ?_⟩
      replace hm := Mem.callM (A := [_, _, _, _, _, _, _, _, _, _, _, _]) hm hmc
      refine rw_p rfl rfl (y_assign rfl) ?_
      refine rw_done ?_
      refine gn_sq ?_
      refine HW_seq rfl ?_
      refine HW_text (.pure 0 (.pure 1 .done)) (by kernel_rfl) ?_
      refine rw_p rfl rfl (y_move rfl) ?_
      refine rw_p rfl rfl (y_ne rfl rfl) ?_
      refine rw_done ?_
      refine gn_sq ?_
      refine HW_cond rfl rfl (fun hc2 => ?_) (fun hc2 => ?_)
      ·
        simp only [decide_eq_true_eq] at hc2
        have hRR : (Pl.wrS a BB (Pl.sN D.sz a BB.length) (Pl.sF D.sz a BB.length) D) = (Pl.wCode D9 (i : Int) (Pl.secX D.sz (Pl.rdS D9 (i : Int)) a BB i), Pl.wDv D9 (i : Int) (Pl.secX D.sz (Pl.rdS D9 (i : Int)) a BB i)) := by rw [hR9, show (Pl.sF D.sz a BB.length + Pl.sN D.sz a BB.length) - i = ((Pl.sF D.sz a BB.length + Pl.sN D.sz a BB.length) - (i + 1)) + 1 by omega]; unfold Pl.wrS; rw [if_neg (by omega), hsz, if_pos hc2]
        refine HW_seq rfl ?_
        refine HW_text (.pure 0 (.act 1 .done)) (by kernel_rfl) ?_
        refine rw_p rfl rfl (y_move rfl) ?_
        refine a_store rfl rfl rfl rfl sz34 rfl hm 9 rfl rfl fun w hm => ?_
        refine rw_done ?_
        refine gn_sq ?_
        refine HW_ret rfl ?_
        refine gr_bl ?_
        refine g_ret hm 2 rfl fun w hm => ?_
        first | exact .inr ⟨rfl, _, Z2, F, _, (hm.pickT [2, 3, 4, 5, 6, 7, 8, 9, 10, 11] 12 rfl), hz2, hRR⟩ | exact .inr ⟨rfl, _, Z9, F, _, (hm.pickT [2, 3, 4, 5, 6, 7, 8, 9, 10, 11] 12 rfl), hz9, hRR⟩
      ·
        simp only [decide_eq_false_iff_not, Decidable.not_not] at hc2
        have hRR : (Pl.wrS a BB (Pl.sN D.sz a BB.length) (Pl.sF D.sz a BB.length) D) = Pl.wrS a BB ((Pl.sF D.sz a BB.length + Pl.sN D.sz a BB.length) - (i + 1)) (i + 1) (Pl.wDv D9 (i : Int) (Pl.secX D.sz (Pl.rdS D9 (i : Int)) a BB i)) := by rw [hR9, show (Pl.sF D.sz a BB.length + Pl.sN D.sz a BB.length) - i = ((Pl.sF D.sz a BB.length + Pl.sN D.sz a BB.length) - (i + 1)) + 1 by omega]; conv => lhs; unfold Pl.wrS; rw [if_neg (by omega), hsz, if_neg (by omega)]
        have hws := Pl.wDv_sz D9 (i : Int) (Pl.secX D.sz (Pl.rdS D9 (i : Int)) a BB i)
        refine HW_skip rfl ?_
        refine gn_bl ?_
        refine g_end hm 2 rfl fun w hm => ?_
        exact .inl ⟨rfl, _, Z2, (hm.pickT [2, 3, 4, 5, 6, 7, 8, 9, 10, 11] 12 rfl), hz2, hRR, hws.1.trans hsz, hws.2.1.trans hct, by omega⟩
  ·
    subst hLB
    obtain ⟨-, ⟨F, D9, Z9, hm, hz9, hR9, hsz, hct, hca⟩ | ⟨D9, Z9, F, c9, hm, hz9, hRR⟩⟩ := hR
    ·
      have hRR : (Pl.wrS a BB (Pl.sN D.sz a BB.length) (Pl.sF D.sz a BB.length) D) = (0, D9) := by rw [hR9, Nat.sub_self]; rfl
      refine ⟨.ready, none, nofun, hm.get (k := 0) rfl, fun w4 hw4 => ?_⟩
      replace hm := g_over hm hw4
      refine gn_bl ?_
      refine gn_sq ?_
      refine HW_seq rfl ?_
      refine HW_text (.act 0 .done) (by kernel_rfl) ?_
      refine a_store rfl rfl rfl rfl sz34 rfl hm 6 rfl rfl fun w hm => ?_
      refine rw_done ?_
      refine gn_sq ?_
      refine HW_ret rfl ?_
      refine toR (fin1 hret rfl hm 0 rfl .one fun w hm => ⟨(.cell rfl (run_loadVar_s sc34 (hm.get (k := 6) rfl) rfl) .nil), ?_⟩)
      exact ⟨by rw [hRR], Z9, by rw [hRR]; exact hz9, Mem.left (L := Z9) (hm.pickT [] 9 rfl)⟩
    ·
      refine ⟨.done, some .ret, nofun, hm.get (k := 0) rfl, fun w4 hw4 => ?_⟩
      replace hm := g_over hm hw4
      refine HW_ret rfl ?_
      refine gr_bl (gr_sq ?_)
      refine toR (fin1 hret rfl hm 0 rfl .one fun w hm => ⟨(.cell rfl (run_loadVar_s sc34 (hm.get (k := 6) rfl) rfl) .nil), ?_⟩)
      exact ⟨by rw [hRR], Z9, by rw [hRR]; exact hz9, Mem.left (L := Z9) (hm.pickT [] 9 rfl)⟩

theorem Pl.take_snoc {α : Type} {l : List α} {i : Nat} {x : α} (h : l[i]? = some x) : l.take (i + 1) = l.take i ++ [x] := by rw [List.take_add_one, h]; rfl

theorem r1_has (a b x : Int) (w0 : World) (h : Pl.I64 (a + b)) : C Tryz.prog 82 [.agg ⟨[.int .i64 a, .int .i64 b]⟩, .int .i64 x] w0 fun v w' => v = .bool (decide (a ≤ x ∧ x < a + b)) ∧ Ext No w0 w' := by
  refine C_of Tryz.func82 rfl rfl rfl fun κ hret hnorm => ?_
  have hm := Mem.start w0
  refine HW_seq rfl ?_
  refine HW_text (.act 0 (.pure 1 .done)) (by kernel_rfl) ?_
  refine a_box rfl rfl rfl rfl hm trivial fun m1 w hg_m1 hm hh => ?_
  refine rw_p rfl rfl (y_assign rfl) ?_
  refine rw_done ?_
  refine gn_sq ?_
  refine HW_seq rfl ?_
  refine HW_text (.pure 0 (.pure 1 (.pure 2 (.pure 3 (.pure 4 (.pure 5 (.pure 6 (.pure 7 (.pure 8 (.pure 9 (.pure 10 (.pure 11 (.pure 12 (.pure 13 .done)))))))))))))) (by kernel_rfl) ?_
  refine rw_p rfl rfl (y_move rfl) ?_
  refine rw_p rfl rfl (y_fieldAddr rfl fo63_0) ?_
  refine rw_p rfl rfl (y_load rfl sc3 (hm.nt 0 rfl) rfl) ?_
  refine rw_p rfl rfl (y_ge rfl rfl) ?_
  refine rw_p rfl rfl (y_move rfl) ?_
  refine rw_g rfl rfl rfl (fun hc => (y_move rfl)) ?_
  refine rw_g rfl rfl rfl (fun hc => (y_fieldAddr rfl fo63_0)) ?_
  refine rw_g rfl rfl rfl (fun hc => (y_load (gx hc rfl) sc3 (hm.nt 0 rfl) rfl)) ?_
  refine rw_g rfl rfl rfl (fun hc => (y_fieldAddr rfl fo63_1)) ?_
  refine rw_g rfl rfl rfl (fun hc => (y_load (gx hc rfl) sc3 (hm.nt 0 rfl) rfl)) ?_
  refine rw_g rfl rfl rfl (fun hc => (y_add (gx hc rfl) (gx hc rfl) (i64w (by simp only [Pl.I64] at h; omega) (by simp only [Pl.I64] at h; omega)))) ?_
  refine rw_g rfl rfl rfl (fun hc => (y_lt (gx hc rfl) (gx hc rfl))) ?_
  refine rw_p rfl rfl (y_and rfl rfl rfl) ?_
  refine rw_p rfl rfl (y_assign rfl) ?_
  refine rw_done ?_
  refine gn_sq ?_
  refine HW_ret rfl ?_
  refine toR (fin hret rfl (.tmp rfl .nil) .one ?_)
  exact ⟨congrArg Value.bool (by rw [Bool.eq_iff_iff]; simp), hm.to⟩

theorem r20_on (D : Pl.Dv) (m : Nat) (Z : List (Nat × Blk)) (w0 : World) (hZ : OwnZ w0 Z) (hz : RefZ 50 172 5 D m Z) (a b : Int) (ha : Pl.I64 a) (hb : Pl.I64 b) : C Tryz.prog 64 [.pointer (some ⟨m, 0, none⟩), .agg ⟨[.int .i64 a, .int .i64 b]⟩] w0 fun v w' => v = .bool (Pl.onD D a b) ∧ Ext No w0 w' := by
  obtain ⟨pbY, cbY, pcY, ccY, csY, hP, -⟩ := hz.row hZ
  have hok := hz.ok
  have o4 := hok.max
  have ho : Pl.onD D a b = (Pl.valid a b && decide (a + b ≤ ((D.cnt * D.sz : Nat) : Int))) := rfl
  refine C_of Tryz.func64 rfl rfl rfl fun κ hret hnorm => ?_
  have hm := Mem.start w0
  refine HW_seq rfl ?_
  refine HW_text (.act 0 (.pure 1 .done)) (by kernel_rfl) ?_
  refine a_box rfl rfl rfl rfl hm trivial fun m1 w hg_m1 hm hh => ?_
  refine rw_p rfl rfl (y_assign rfl) ?_
  refine rw_done ?_
  refine gn_sq ?_
  refine HW_seq rfl ?_
  cases hv : Pl.valid a b
  ·
    rw [hv, Bool.false_and] at ho
    refine HW_draw (.pure 0 (.act 1 (.pure 2 (.pure 3 (.pure 4 (.pure 5 (.pure 6 (.pure 7 (.pure 8 (.pure 9 (.pure 10 (.pure 11 (.pure 12 (.pure 13 (.pure 14 (.pure 15 (.pure 16 (.pure 17 (.pure 18 (.pure 19 .done)))))))))))))))))))) No mix (by kernel_rfl) hm fun w hw hm0 hh => ?_
    have hm := hm0
    refine rw_p rfl rfl (y_loadA (s := 2) (vs := [_, _]) rfl ag63 (hm0.nd 0 rfl id) rfl) ?_
    refine a_call rfl rfl rfl go98 (C.as (v := .bool false) (r1_valid a b _ ha hb) (by rw [hv])) fun v w hR => ?_
    obtain ⟨rfl, hE⟩ := hR
    refine ⟨hh.ext hE, ?_⟩
    replace hm := hm.ext hE
    replace hh := hh.ext hE
    refine rw_p rfl rfl (y_move rfl) ?_
    refine rw_gf rfl rfl (by decide) rfl ?_
    refine rw_gf rfl rfl (by decide) rfl ?_
    refine rw_gf rfl rfl (by decide) rfl ?_
    refine rw_gf rfl rfl (by decide) rfl ?_
    refine rw_gf rfl rfl (by decide) rfl ?_
    refine rw_gf rfl rfl (by decide) rfl ?_
    refine rw_gf rfl rfl (by decide) rfl ?_
    refine rw_gf rfl rfl (by decide) rfl ?_
    refine rw_gf rfl rfl (by decide) rfl ?_
    refine rw_gf rfl rfl (by decide) rfl ?_
    refine rw_gf rfl rfl (by decide) rfl ?_
    refine rw_gf rfl rfl (by decide) rfl ?_
    refine rw_gf rfl rfl (by decide) rfl ?_
    refine rw_gf rfl rfl (by decide) rfl ?_
    refine rw_gf rfl rfl (by decide) rfl ?_
    refine rw_p rfl rfl (y_pickF rfl rfl) ?_
    refine rw_p rfl rfl (y_assign rfl) ?_
    refine rw_done ?_
    refine gn_sq ?_
    refine HW_ret rfl ?_
    refine toR (fin hret rfl (.tmp rfl .nil) .one ?_)
    exact ⟨by rw [ho], hm.to⟩
  ·
    have hv2 := Pl.valid_t hv
    rw [hv, Bool.true_and] at ho
    refine HW_draw (.pure 0 (.act 1 (.pure 2 (.pure 3 (.pure 4 (.pure 5 (.pure 6 (.pure 7 (.pure 8 (.pure 9 (.pure 10 (.pure 11 (.pure 12 (.pure 13 (.pure 14 (.pure 15 (.pure 16 (.pure 17 (.pure 18 (.pure 19 .done)))))))))))))))))))) No mix (by kernel_rfl) hm fun w hw hm0 hh => ?_
    have hm := hm0
    refine rw_p rfl rfl (y_loadA (s := 2) (vs := [_, _]) rfl ag63 (hm0.nd 0 rfl id) rfl) ?_
    refine a_call rfl rfl rfl go98 (C.as (v := .bool true) (r1_valid a b _ ha hb) (by rw [hv])) fun v w hR => ?_
    obtain ⟨rfl, hE⟩ := hR
    refine ⟨hh.ext hE, ?_⟩
    replace hm := hm.ext hE
    replace hh := hh.ext hE
    refine rw_p rfl rfl (y_move rfl) ?_
    refine rw_p rfl rfl (y_fieldAddr rfl fo63_0) ?_
    refine rw_p rfl rfl (y_load rfl sc3 (hm0.nd 0 rfl id) rfl) ?_
    refine rw_p rfl rfl (y_fieldAddr rfl fo63_1) ?_
    refine rw_p rfl rfl (y_load rfl sc3 (hm0.nd 0 rfl id) rfl) ?_
    refine rw_p rfl rfl (y_add rfl rfl (i64w (by omega) (by omega))) ?_
    refine rw_p rfl rfl (y_move rfl) ?_
    refine rw_p rfl rfl (y_nil rfl) ?_
    refine rw_p rfl rfl (y_fieldAddr rfl fo50_0) ?_
    refine rw_p rfl rfl (y_load rfl sc3 (fun u hu => ((hm0.to.trans hu).same _ (Array.getElem?_eq_some_iff.1 hP).1 id).trans hP) rfl) ?_
    refine rw_p rfl rfl (y_move rfl) ?_
    refine rw_p rfl rfl (y_nil rfl) ?_
    refine rw_p rfl rfl (y_fieldAddr rfl fo50_1) ?_
    refine rw_p rfl rfl (y_load rfl sc3 (fun u hu => ((hm0.to.trans hu).same _ (Array.getElem?_eq_some_iff.1 hP).1 id).trans hP) rfl) ?_
    refine rw_p rfl rfl (y_mul rfl rfl ((mulN (by rw [Nat.mul_comm]; omega)).trans (show _ = ((D.cnt * D.sz : Nat) : Int) by rw [Nat.mul_comm]))) ?_
    refine rw_p rfl rfl (y_le rfl rfl) ?_
    refine rw_p rfl rfl (y_pickT rfl rfl) ?_
    refine rw_p rfl rfl (y_assign rfl) ?_
    refine rw_done ?_
    refine gn_sq ?_
    refine HW_ret rfl ?_
    refine toR (fin hret rfl (.tmp rfl .nil) .one ?_)
    exact ⟨by rw [ho], hm.to⟩

set_option maxHeartbeats 800000 in
theorem r20_read (D : Pl.Dv) (m : Nat) (Z : List (Nat × Blk)) (w0 : World) (hZ : OwnZ w0 Z) (hz : RefZ 50 172 5 D m Z) (a b : Int) (ha : Pl.I64 a) (hb : Pl.I64 b) (hcl : D.ca.length ≤ 1000000000) : C Tryz.prog 30 [.pointer (some ⟨m, 0, none⟩), .agg ⟨[.int .i64 a, .int .i64 b]⟩] w0 fun v w' => ∃ (q : Option Addr) (c : Nat), v = .tuple ⟨[.slice q (Pl.rdB D a b).length c, .int .i64 (Pl.rdCode D a b)]⟩ ∧ Rd w' q ((Pl.rdB D a b).flatMap encB) ∧ Ext No w0 w' := by
  obtain ⟨pbY, cbY, pcY, ccY, csY, hP, -⟩ := hz.row hZ
  have hok := hz.ok
  have hcl9 := Pl.contents_len hok
  have o4 := hok.max
  have hrc : Pl.rdCode D a b = if Pl.onD D a b = false then 2 else if 0 < b ∧ D.dn = true then 18 else 0 := rfl
  refine C_of Tryz.func30 rfl rfl rfl fun κ hret hnorm => ?_
  have hm := Mem.start w0
  refine HW_seq rfl ?_
  refine HW_text (.act 0 (.pure 1 (.pure 2 .done))) (by kernel_rfl) ?_
  refine a_box rfl rfl rfl rfl hm trivial fun m1 w hg_m1 hm hh => ?_
  refine rw_p rfl rfl (y_assign rfl) ?_
  refine rw_p rfl rfl (y_assign rfl) ?_
  refine rw_done ?_
  refine gn_sq ?_
  refine HW_seq rfl ?_
  refine HW_seq rfl ?_
  refine HW_text (.pure 0 (.pure 1 (.act 2 (.pure 3 .done)))) (by kernel_rfl) ?_
  refine rw_p rfl rfl (y_move rfl) ?_
  refine rw_p rfl rfl (y_loadA (s := 2) (vs := [_, _]) rfl ag63 (hm.nt 0 rfl) rfl) ?_
  refine a_call rfl rfl rfl go64 (r20_on D m Z _ (hZ.ext hm.to) hz a b ha hb) fun v w hR => ?_
  obtain ⟨rfl, hE⟩ := hR
  refine ⟨trivial, ?_⟩
  replace hm := hm.ext hE
  refine rw_p rfl rfl (y_not rfl) ?_
  refine rw_done ?_
  refine gn_sq ?_
  refine HW_cond rfl rfl (fun hc0 => ?_) (fun hc0 => ?_)
  ·
    simp only [Bool.not_eq_true'] at hc0
    have hc : Pl.rdCode D a b = 2 := by rw [hrc, if_pos hc0]
    have hB : Pl.rdB D a b = [] := by unfold Pl.rdB; rw [hc]; rfl
    refine HW_seq rfl ?_
    refine HW_text (.pure 0 (.pure 1 .done)) (by kernel_rfl) ?_
    refine rw_p rfl rfl (y_assign rfl) ?_
    refine rw_p rfl rfl (y_assign rfl) ?_
    refine rw_done ?_
    refine gn_sq ?_
    refine HW_ret rfl ?_
    refine gr_sq ?_
    refine toR (fin hret rfl (.tmp rfl (.tmp rfl .nil)) .more ?_)
    exact ⟨none, 0, by rw [hc, hB]; rfl, by rw [hB]; exact rfl, hm.to⟩
  ·
    simp only [Bool.not_eq_false'] at hc0
    have hv := Pl.onD_iff.1 hc0
    obtain ⟨x, rfl⟩ : ∃ x : Nat, a = x := ⟨a.toNat, by omega⟩
    obtain ⟨y, rfl⟩ : ∃ y : Nat, b = y := ⟨b.toNat, by omega⟩
    refine HW_skip rfl ?_
    refine gn_sq ?_
    refine HW_seq rfl ?_
    refine HW_seq rfl ?_
    refine HW_text (.pure 0 (.pure 1 (.pure 2 (.pure 3 (.pure 4 (.pure 5 (.pure 6 (.pure 7 (.pure 8 .done))))))))) (by kernel_rfl) ?_
    refine rw_p rfl rfl (y_fieldAddr rfl fo63_1) ?_
    refine rw_p rfl rfl (y_load rfl sc3 (hm.nt 0 rfl) rfl) ?_
    refine rw_p rfl rfl (y_gt rfl rfl) ?_
    refine rw_p rfl rfl (y_move rfl) ?_
    refine rw_g rfl rfl rfl (fun hc => (y_move rfl)) ?_
    refine rw_g rfl rfl rfl (fun hc => (y_nil (gx hc rfl))) ?_
    refine rw_g rfl rfl rfl (fun hc => (y_fieldAddr (gx hc rfl) fo50_6)) ?_
    refine rw_g rfl rfl rfl (fun hc => (y_load (gx hc rfl) sc4 (nowT ((hm.to.same _ (Array.getElem?_eq_some_iff.1 hP).1 id).trans hP)) rfl)) ?_
    refine rw_p rfl rfl (y_and rfl rfl rfl) ?_
    refine rw_done ?_
    refine gn_sq ?_
    refine HW_cond rfl rfl (fun hc1 => ?_) (fun hc1 => ?_)
    ·
      simp only [Bool.and_eq_true, decide_eq_true_eq] at hc1
      have hc : Pl.rdCode D x y = 18 := by rw [hrc, if_neg (by simp [hc0]), if_pos hc1]
      have hB : Pl.rdB D x y = [] := by unfold Pl.rdB; rw [hc]; rfl
      refine HW_seq rfl ?_
      refine HW_text (.pure 0 (.pure 1 .done)) (by kernel_rfl) ?_
      refine rw_p rfl rfl (y_assign rfl) ?_
      refine rw_p rfl rfl (y_assign rfl) ?_
      refine rw_done ?_
      refine gn_sq ?_
      refine HW_ret rfl ?_
      refine gr_sq ?_
      refine toR (fin hret rfl (.tmp rfl (.tmp rfl .nil)) .more ?_)
      exact ⟨none, 0, by rw [hc, hB]; rfl, by rw [hB]; exact rfl, hm.to⟩
    ·
      have hc : Pl.rdCode D x y = 0 := by rw [hrc, if_neg (by simp [hc0]), if_neg (by rintro ⟨h1, h2⟩; rw [h2] at hc1; simp at hc1; omega)]
      have hB : Pl.rdB D x y = ((Pl.contents D).drop x).take y := by unfold Pl.rdB; rw [if_pos hc]; rfl
      have hBl : (Pl.rdB D x y).length = y := by rw [hB, List.length_take, List.length_drop]; omega
      refine HW_skip rfl ?_
      refine gn_sq ?_
      refine HW_seq rfl ?_
      refine HW_draw (.pure 0 (.pure 2 (.pure 3 (.pure 4 (.pure 5 (.pure 6 (.pure 7 (.pure 8 (.act 1 (.pure 9 (.pure 10 (.pure 11 .done)))))))))))) No mix (by kernel_rfl) hm fun w hw hm0 hh => ?_
      have hm := hm0
      refine rw_p rfl rfl (y_move rfl) ?_
      refine rw_p rfl rfl (y_fieldAddr rfl fo63_0) ?_
      refine rw_p rfl rfl (y_load rfl sc3 (hm0.nd 0 rfl id) rfl) ?_
      refine rw_p rfl rfl (y_fieldAddr rfl fo63_0) ?_
      refine rw_p rfl rfl (y_load rfl sc3 (hm0.nd 0 rfl id) rfl) ?_
      refine rw_p rfl rfl (y_fieldAddr rfl fo63_1) ?_
      refine rw_p rfl rfl (y_load rfl sc3 (hm0.nd 0 rfl id) rfl) ?_
      refine rw_p rfl rfl (y_add rfl rfl (addK _ (by omega))) ?_
      refine a_call rfl rfl rfl go65 (q_contents D m Z _ (hZ.ext hm.to) hz hcl) fun v w hR => ?_
      obtain ⟨p_t, cap_t, Nt, rfl, hh_t, hmc⟩ := hR
      refine ⟨hh.ext hmc.to, ?_⟩
      have hR_t := hh_t.rd2 (hZ.ext hm.to) (fun _ he => he) hmc
      have hl_t := hh_t.le
      simp only at hl_t
      replace hh := hh.ext hmc.to
      replace hm := Mem.callTZ hm hmc
      refine rw_p rfl rfl (y_v (y_slice (ln := x) (hn := (x + y)) rfl sl22 ⟨_, rfl⟩ ⟨_, rfl⟩ (by omega) (by omega) (fun h => hh_t.spot (by show cap_t ≠ 0; omega))) (show _ = Value.slice (slp p_t cap_t x 1) (Pl.rdB D x y).length (cap_t - x) by rw [hBl, Nat.add_sub_cancel_left])) ?_
      refine rw_p rfl rfl (y_assign rfl) ?_
      refine rw_p rfl rfl (y_assign rfl) ?_
      refine rw_done ?_
      refine gn_sq ?_
      refine HW_ret rfl ?_
      refine toR (fin hret rfl (.tmp rfl (.tmp rfl .nil)) .more ?_)
      exact ⟨_, _, by rw [hc], by rw [hB]; exact hR_t.sub hl_t, hm.to⟩

set_option maxHeartbeats 3200000 in
theorem r20_write (D : Pl.Dv) (m : Nat) (Z : List (Nat × Blk)) (w0 : World) (hZ : OwnZ w0 Z) (hz : RefZ 50 172 5 D m Z) (a : Nat) (q : Option Addr) (cq : Nat) (BB : List UInt8) (hon : Pl.onD D (a : Int) (BB.length : Int) = true) (hq : Rd w0 q (BB.flatMap encB)) (hqX : BB.flatMap encB ≠ [] → ∀ ad, q = some ad → ¬ Mn (reals Z) ad.block) (hcl : D.ca.length + D.cnt ≤ 1000000000) : C Tryz.prog 40 [.pointer (some ⟨m, 0, none⟩), .int .i64 (a : Int), .slice q BB.length cq] w0 fun v w' => v = .int .i64 (Pl.wrS a BB (Pl.sN D.sz a BB.length) (Pl.sF D.sz a BB.length) D).1 ∧ ∃ Z', RefZ 50 172 5 (Pl.wrS a BB (Pl.sN D.sz a BB.length) (Pl.sF D.sz a BB.length) D).2 m Z' ∧ Mem w0 w' (Mn (reals Z)) Z' := by
  have hok := hz.ok
  have o1 := hok.sz
  have o4 := hok.max
  have o3 := hok.cnt
  have o7 : D.sz ≤ D.cnt * D.sz := Nat.le_mul_of_pos_left _ o3
  have hv := Pl.onD_iff.1 hon
  have hab : a + BB.length ≤ D.cnt * D.sz := by omega
  have hcn := Pl.s_cnt (cnt := D.cnt) (sz := D.sz) (a := a) (b := BB.length) o1 hab o3
  have ha : Pl.I64 (a : Int) := by simp only [Pl.I64]; omega
  have hcz : D.cnt ≤ D.cnt * D.sz := Nat.le_mul_of_pos_right _ o1
  refine C_of Tryz.func40 rfl rfl rfl fun κ hret hnorm => ?_
  have hm := hZ.start
  refine HW_seq rfl ?_
  refine HW_text (.pure 0 .done) (by kernel_rfl) ?_
  refine rw_p rfl rfl (y_assign rfl) ?_
  refine rw_done ?_
  refine gn_sq ?_
  refine HW_seq rfl ?_
  refine HW_text (.pure 0 (.pure 1 (.pure 2 (.pure 3 (.act 4 (.act 5 .done)))))) (by kernel_rfl) ?_
  refine rw_p rfl rfl (y_move rfl) ?_
  refine rw_p rfl rfl (y_move rfl) ?_
  refine rw_p rfl rfl (y_len rfl rfl sl22) ?_
  refine rw_p rfl rfl (y_build (cs := [_, _]) z63 ft63 rfl rfl rfl rfl rfl) ?_
  refine a_alloc rfl rfl z63 hm trivial fun m1 w hg_m1 hm hh => ?_
  refine a_store rfl rfl rfl rfl sz63 rfl hm 0 rfl rfl fun w hm => ?_
  refine rw_done ?_
  refine gn_sq ?_
  refine HW_seq rfl ?_
  refine HW_seq rfl ?_
  refine HW_text (.pure 0 (.pure 1 (.act 2 (.pure 3 .done)))) (by kernel_rfl) ?_
  refine rw_p rfl rfl (y_move rfl) ?_
  refine rw_p rfl rfl (y_loadA (s := 2) (vs := [_, _]) rfl ag63 (hm.nt 0 rfl) rfl) ?_
  refine a_call rfl rfl rfl go64 (C.as (v := .bool true) (r20_on D m Z _ (OwnZ.right (A := [_]) hm.ownZ) hz a (BB.length : Int) ha (by simp only [Pl.I64]; omega)) (by rw [hon])) fun v w hR => ?_
  obtain ⟨rfl, hE⟩ := hR
  refine ⟨trivial, ?_⟩
  replace hm := hm.ext hE
  refine rw_p rfl rfl (y_not rfl) ?_
  refine rw_done ?_
  refine gn_sq ?_
  refine HW_condF rfl rfl rfl ?_
  refine HW_skip rfl ?_
  refine gn_sq ?_
  refine HW_seq rfl ?_
  refine HW_draw (.pure 0 (.pure 1 (.pure 2 (.pure 3 (.pure 4 (.act2 5 (.act 6 (.cut (.act 7 .done))) 6 (.act 5 (.cut (.act 7 .done))))))))) No mix (by kernel_rfl) hm fun w hw hm0 hh => ?_
  have hm := hm0
  obtain ⟨pbY, cbY, pcY, ccY, csY, hPy, -⟩ := hz.row (OwnZ.right (A := [_]) hm0.ownZ)
  refine rw_p rfl rfl (y_move rfl) ?_
  refine rw_p rfl rfl (y_nil rfl) ?_
  refine rw_p rfl rfl (y_fieldAddr rfl fo50_0) ?_
  refine rw_p rfl rfl (y_load rfl sc3 (fun u hu => (Ext.same hu _ (Array.getElem?_eq_some_iff.1 hPy).1 id).trans hPy) rfl) ?_
  refine rw_p rfl rfl (y_loadA (s := 2) (vs := [_, _]) rfl ag63 (hm0.nd 0 rfl id) rfl) ?_
  refine a_two ?_ ?_
  ·
    refine a_call rfl rfl rfl go80 (C.as (v := .agg ⟨[.int .i64 ((Pl.sF D.sz a BB.length : Nat) : Int), .int .i64 ((Pl.sN D.sz a BB.length : Nat) : Int)]⟩) (r20_secs (D.sz : Int) (a : Int) (BB.length : Int) _ (by simp only [Pl.I64]; omega) ha (by simp only [Pl.I64]; omega)) (by rw [Pl.secs_nat o1 (by omega)]; rfl)) fun v w hR => ?_
    obtain ⟨rfl, hE⟩ := hR
    refine ⟨hh.ext hE, ?_⟩
    replace hm := hm.ext hE
    replace hh := hh.ext hE
    refine a_alloc rfl rfl z63 hm hh fun m2 w hg_m2 hm hh => ?_
    refine a_cut ?_
    refine a_store rfl rfl rfl rfl sz63 rfl hm 0 rfl rfl fun w hm => ?_
    refine rw_done ?_
    refine gn_sq ?_
    refine HW_seq rfl ?_
    refine HW_seq rfl ?_
    refine HW_text (.pure 0 (.pure 1 (.pure 2 .done))) (by kernel_rfl) ?_
    refine rw_p rfl rfl (y_fieldAddr rfl fo63_0) ?_
    refine rw_p rfl rfl (y_load rfl sc3 (hm.nt 0 rfl) rfl) ?_
    refine rw_p rfl rfl (y_assign rfl) ?_
    refine rw_done ?_
    refine gn_sq ?_
    refine HW_block rfl ?_
    refine HW_loopK (ι := Nat × Pl.Dv × List (Nat × Blk)) rfl (ks := [0, 1, 2, 7, 8]) (.cons rfl (.cons rfl (.cons rfl (.cons rfl (.cons rfl .nil))))) (fun x => [(9, .int .i64 x.1)]) (fun x w => Mem w0 w (Mn (reals Z)) ((m2, .row 63 [.int .i64 ((Pl.sF D.sz a BB.length : Nat) : Int), .int .i64 ((Pl.sN D.sz a BB.length : Nat) : Int)]) :: (m1, .row 63 [.int .i64 (a : Int), .int .i64 (BB.length : Int)]) :: x.2.2) ∧ RefZ 50 172 5 x.2.1 m x.2.2 ∧ (Pl.wrS a BB (Pl.sN D.sz a BB.length) (Pl.sF D.sz a BB.length) D) = Pl.wrS a BB ((Pl.sF D.sz a BB.length + Pl.sN D.sz a BB.length) - x.1) x.1 x.2.1 ∧ x.2.1.sz = D.sz ∧ x.2.1.cnt = D.cnt ∧ x.2.1.ca.length + ((Pl.sF D.sz a BB.length + Pl.sN D.sz a BB.length) - x.1) ≤ 1000000000 ∧ Pl.sF D.sz a BB.length ≤ x.1 ∧ x.1 ≤ (Pl.sF D.sz a BB.length + Pl.sN D.sz a BB.length)) (fun x => (Pl.sF D.sz a BB.length + Pl.sN D.sz a BB.length) - x.1) (Pl.sF D.sz a BB.length, D, Z) (⟨(hm.pickT [0, 1] 2 rfl), hz, by simp only; rw [Nat.add_sub_cancel_left], rfl, rfl, by simp only; omega, Nat.le_refl _, by simp only; omega⟩) ⟨rfl, trivial⟩ (fun x w hM => ?_)
    obtain ⟨hm, hz9, hR9, hsz, hct, hca, hlo, hhi⟩ := hM
    obtain ⟨i, D9, Z9⟩ := x
    simp only at hm hz9 hR9 hsz hct hca hlo hhi ⊢
    refine HW_seq rfl ?_
    refine HW_seq rfl ?_
    refine HW_text (.pure 0 (.pure 1 (.pure 2 (.pure 3 (.pure 4 (.pure 5 (.pure 6 .done))))))) (by kernel_rfl) ?_
    refine rw_p rfl rfl (y_move rfl) ?_
    refine rw_p rfl rfl (y_fieldAddr rfl fo63_0) ?_
    refine rw_p rfl rfl (y_load rfl sc3 (hm.nt 0 rfl) rfl) ?_
    refine rw_p rfl rfl (y_fieldAddr rfl fo63_1) ?_
    refine rw_p rfl rfl (y_load rfl sc3 (hm.nt 0 rfl) rfl) ?_
    refine rw_p rfl rfl (y_add rfl rfl (addK _ (by omega))) ?_
    refine rw_p rfl rfl (y_lt rfl rfl) ?_
    refine rw_done ?_
    refine gn_sq ?_
    refine HW_cond rfl rfl (fun hc1 => ?_) (fun hc1 => ?_)
    ·
      simp only [decide_eq_true_eq] at hc1
      have hse := Pl.sec_le (sz := D.sz) (show i < D.cnt by omega)
      have hii : i ≤ i * D.sz := Nat.le_mul_of_pos_right _ o1
      refine HW_skip rfl ?_
      refine gn_sq ?_
      refine HW_seq rfl ?_
      refine HW_block rfl ?_
      refine HW_seq rfl ?_
      refine HW_text (.pure 0 (.pure 1 (.act 2 (.pure 3 (.pure 4 (.pure 5 (.pure 6 (.pure 7 .done)))))))) (by kernel_rfl) ?_
      refine rw_p rfl rfl (y_move rfl) ?_
      refine rw_p rfl rfl (y_move rfl) ?_
      refine a_call rfl rfl rfl go81 (q_read D9 m Z9 _ (OwnZ.right (A := [_, _]) hm.ownZ) hz9 (by omega) (i : Int)) fun v w hR => ?_
      obtain ⟨p_t, cap_t, rfl, hR_t, hE⟩ := hR
      refine ⟨trivial, ?_⟩
      replace hm := hm.ext hE
      refine rw_p rfl rfl (y_move rfl) ?_
      refine rw_p rfl rfl (y_extract rfl rfl) ?_
      refine rw_p rfl rfl (y_extract rfl rfl) ?_
      refine rw_p rfl rfl (y_assign rfl) ?_
      refine rw_p rfl rfl (y_assign rfl) ?_
      refine rw_done ?_
      refine gn_sq ?_
      refine HW_seq rfl ?_
      refine HW_seq rfl ?_
      refine HW_text (.pure 0 (.pure 1 .done)) (by kernel_rfl) ?_
      refine rw_p rfl rfl (y_move rfl) ?_
      refine rw_p rfl rfl (y_ne rfl rfl) ?_
      refine rw_done ?_
      refine gn_sq ?_
      refine HW_cond rfl rfl (fun hc2 => ?_) (fun hc2 => ?_)
      ·
        simp only [decide_eq_true_eq] at hc2
        have hRR : (Pl.wrS a BB (Pl.sN D.sz a BB.length) (Pl.sF D.sz a BB.length) D) = (Pl.codeAt D9 (i : Int), D9) := by rw [hR9, show (Pl.sF D.sz a BB.length + Pl.sN D.sz a BB.length) - i = ((Pl.sF D.sz a BB.length + Pl.sN D.sz a BB.length) - (i + 1)) + 1 by omega]; unfold Pl.wrS; rw [if_pos hc2]
        refine HW_seq rfl ?_
        refine HW_text (.pure 0 (.pure 1 .done)) (by kernel_rfl) ?_
        refine rw_p rfl rfl (y_move rfl) ?_
        refine rw_p rfl rfl (y_assign rfl) ?_
        refine rw_done ?_
        refine gn_sq ?_
        refine HW_ret rfl ?_
        refine gr_sq (gr_bl (gr_sq (gr_lp (gr_bl (gr_sq ?_)))))
        refine toR (fin hret rfl (.tmp rfl .nil) .one ?_)
        exact ⟨by rw [hRR] <;> rfl, Z9, by rw [hRR]; exact hz9, (hm.pickT [] 2 rfl)⟩
      ·
        simp only [decide_eq_false_iff_not, Decidable.not_not] at hc2
        have hvl : (Pl.rdS D9 (i : Int)).length = D.sz := (Pl.rdS_len hz9.ok (i := i) (by omega)).trans hsz
        rw [hc2, if_pos rfl, hvl]
        rw [if_pos hc2] at hR_t
        refine HW_skip rfl ?_
        refine gn_sq ?_
        refine HW_seq rfl ?_
        refine HW_text (.pure 0 .done) (by kernel_rfl) ?_
        refine rw_p rfl rfl (y_assign rfl) ?_
        refine rw_done ?_
        refine gn_sq ?_
        refine HW_seq rfl ?_
        refine HW_seq rfl ?_
        refine HW_text (.pure 0 .done) (by kernel_rfl) ?_
        refine rw_p rfl rfl (y_assign rfl) ?_
        refine rw_done ?_
        refine gn_sq ?_
        refine HW_block rfl ?_
        rename World => w9
        have hmO := hm
        have hm := (Mem.start w9).gapIn
        have ha_x := Acc.nil 5 1 none 0
        have hT7 : w9.heap[m1]? = some (Blk.row 63 [.int .i64 (a : Int), .int .i64 (BB.length : Int)]).toObj := hmO.get (k := 1) rfl
        obtain ⟨pbY, cbY, pcY, ccY, csY, hP9, -⟩ := hz9.row (OwnZ.right (A := [_, _]) hmO.ownZ)
        rw [show rfV D9 pbY cbY pcY ccY = [.int .i64 (D.sz : Int), .int .i64 (D9.cnt : Int), .slice pbY D9.dk.length cbY, .slice pcY D9.ca.length ccY, .int .i64 D9.wr, .int .u64 D9.kp, .bool D9.dn, .int .i64 D9.sW, .int .i64 D9.sF, .int .i64 D9.sC, .int .i64 D9.sH, .int .i64 D9.sM] by rw [← hsz]; rfl] at hP9
        have hq9 := hq.extN hmO.to hqX
        refine HW_loopK (ι := Nat × Option Addr × Nat × Nat × Blk) rfl (ks := [0, 1, 2, 7, 8, 9, 10, 11]) (.cons rfl (.cons rfl (.cons rfl (.cons rfl (.cons rfl (.cons rfl (.cons rfl (.cons rfl .nil)))))))) (fun y => [(13, .int .i64 y.1), (12, .slice y.2.1 y.1 y.2.2.1)]) (fun y w => Mem w9 w No [(y.2.2.2.1, y.2.2.2.2)] ∧ Acc 5 1 y.2.1 y.1 y.2.2.1 (((Pl.secX D.sz (Pl.rdS D9 (i : Int)) a BB i).take y.1).flatMap encB) y.2.2.2.1 y.2.2.2.2 ∧ y.1 ≤ D.sz) (fun y => D.sz - y.1) (0, none, 0, 0, .gap) (⟨hm, ha_x, Nat.zero_le _⟩) ⟨rfl, rfl, trivial⟩ (fun y w hM => ?_)
        obtain ⟨hm, ha_x, hk9⟩ := hM
        refine HW_seq rfl ?_
        refine HW_seq rfl ?_
        refine HW_text (.pure 0 (.pure 1 (.pure 2 (.pure 3 (.pure 4 (.pure 5 .done)))))) (by kernel_rfl) ?_
        refine rw_p rfl rfl (y_move rfl) ?_
        refine rw_p rfl rfl (y_move rfl) ?_
        refine rw_p rfl rfl (y_nil rfl) ?_
        refine rw_p rfl rfl (y_fieldAddr rfl fo50_0) ?_
        refine rw_p rfl rfl (y_load rfl sc3 (nowT ((hm.to.same _ (Array.getElem?_eq_some_iff.1 hP9).1 id).trans hP9)) rfl) ?_
        refine rw_p rfl rfl (y_lt rfl rfl) ?_
        refine rw_done ?_
        refine gn_sq ?_
        refine HW_cond rfl rfl (fun hc3 => ?_) (fun hc3 => ?_)
        ·
          obtain ⟨k, p_x, cap_x, g_x, b_x⟩ := y
          simp only at hm ha_x hk9 hc3 ⊢
          simp only [decide_eq_true_eq] at hc3
          have hxk := Pl.secX_get (old := Pl.rdS D9 (i : Int)) (a := a) (bs := BB) (i := i) (k := k) (by omega) hvl
          refine HW_skip rfl ?_
          refine gn_sq ?_
          refine HW_seq rfl ?_
          refine HW_block rfl ?_
          refine HW_seq rfl ?_
          refine HW_text (.pure 0 (.pure 1 (.pure 2 (.pure 3 (.pure 4 (.pure 5 (.pure 6 (.pure 7 (.pure 8 .done))))))))) (by kernel_rfl) ?_
          refine rw_p rfl rfl (y_move rfl) ?_
          refine rw_p rfl rfl (y_move rfl) ?_
          refine rw_p rfl rfl (y_nil rfl) ?_
          refine rw_p rfl rfl (y_fieldAddr rfl fo50_0) ?_
          refine rw_p rfl rfl (y_load rfl sc3 (nowT ((hm.to.same _ (Array.getElem?_eq_some_iff.1 hP9).1 id).trans hP9)) rfl) ?_
          refine rw_p rfl rfl (y_mul rfl rfl (mulN (by omega))) ?_
          refine rw_p rfl rfl (y_move rfl) ?_
          refine rw_p rfl rfl (y_add rfl rfl (addK _ (by omega))) ?_
          refine rw_p rfl rfl (y_assign rfl) ?_
          refine rw_done ?_
          refine gn_sq ?_
          refine HW_seq rfl ?_
          refine HW_text (.pure 0 (.pure 1 (.act 2 .done))) (by kernel_rfl) ?_
          refine rw_p rfl rfl (y_loadA (s := 2) (vs := [_, _]) rfl ag63 (nowT ((hm.to.same _ (Array.getElem?_eq_some_iff.1 hT7).1 id).trans hT7)) rfl) ?_
          refine rw_p rfl rfl (y_move rfl) ?_
          refine a_call rfl rfl rfl go82 (r1_has (a : Int) (BB.length : Int) ((i * D.sz + k : Nat) : Int) _ (by simp only [Pl.I64]; omega)) fun v w hR => ?_
          obtain ⟨rfl, hE⟩ := hR
          refine ⟨trivial, ?_⟩
          replace hm := hm.ext hE
          refine rw_done ?_
          refine gn_sq ?_
          refine HW_cond rfl rfl (fun hc4 => ?_) (fun hc4 => ?_)
          ·
            simp only [decide_eq_true_eq] at hc4
            rw [if_pos (by omega)] at hxk
            obtain ⟨c, hi⟩ : ∃ y_, BB[i * D.sz + k - a]? = some y_ := ⟨_, List.getElem?_eq_getElem (by omega)⟩
            rw [hi] at hxk
            obtain ⟨b2, o2, hp2⟩ := hq9.atI encB_len (by decide) hi
            refine HW_text (.pure 0 (.pure 1 (.pure 2 (.pure 3 (.pure 4 (.pure 5 (.pure 6 (.act 7 (.act 8 (.pure 9 .done)))))))))) (by kernel_rfl) ?_
            refine rw_p rfl rfl (y_move rfl) ?_
            refine rw_p rfl rfl (y_move rfl) ?_
            refine rw_p rfl rfl (y_move rfl) ?_
            refine rw_p rfl rfl (y_move rfl) ?_
            refine rw_p rfl rfl (y_sub rfl rfl (subK _ (by omega) (by omega))) ?_
            refine rw_p rfl rfl (y_index rfl rfl sl22 hp2 (by omega) (by omega)) ?_
            refine rw_p rfl rfl (y_el1 rfl sc5 (hp2 ▸ hq9.ext0 hm.to).nt encB_len hi rfl) ?_
            refine a_buildSlice (l := [_]) rfl rfl sl22 z5 rfl rfl rfl rfl rfl rfl rfl hm trivial fun m3 w hg_m3 hm hh => ?_
            refine a_append rfl rfl rfl rfl rfl rfl sl22 sl22 z5 rfl rfl (Rd.row0 (hm.get (k := 0) rfl)) rfl ha_x hm 1 rfl (by omega) (by omega) fun p_x cap_x g_x b_x w ha_x hm => ?_
            replace ha_x := ha_x.to (show _ = ((Pl.secX D.sz (Pl.rdS D9 (i : Int)) a BB i).take (k + 1)).flatMap encB by rw [Pl.take_snoc hxk, List.flatMap_append]; rfl)
            refine rw_p rfl rfl (y_assign rfl) ?_
            refine rw_done ?_
            refine gn_bl ?_
            refine gn_sq ?_
            refine HW_text (.pure 0 (.pure 1 (.pure 2 .done))) (by kernel_rfl) ?_
            refine rw_p rfl rfl (y_move rfl) ?_
            refine rw_p rfl rfl (y_add rfl rfl (i64w (by omega) (by omega))) ?_
            refine rw_p rfl rfl (y_assign rfl) ?_
            refine rw_done ?_
            exact next (k + 1, p_x, cap_x, g_x, b_x) (by simp only; omega) ⟨(hm.pick [1] rfl), ha_x, by simp only; omega⟩ ⟨nx k, rfl, rfl, rfl, rfl, rfl, rfl, rfl, rfl, rfl, trivial⟩
          ·
            simp only [decide_eq_false_iff_not] at hc4
            rw [if_neg (by omega)] at hxk
            obtain ⟨c, hi⟩ : ∃ y_, (Pl.rdS D9 (i : Int))[k]? = some y_ := ⟨_, List.getElem?_eq_getElem (by omega)⟩
            rw [hi] at hxk
            obtain ⟨b2, o2, hp2⟩ := hR_t.atI encB_len (by decide) hi
            refine HW_text (.pure 0 (.pure 1 (.pure 2 (.pure 3 (.pure 4 (.act 5 (.act 6 (.pure 7 .done)))))))) (by kernel_rfl) ?_
            refine rw_p rfl rfl (y_move rfl) ?_
            refine rw_p rfl rfl (y_move rfl) ?_
            refine rw_p rfl rfl (y_move rfl) ?_
            refine rw_p rfl rfl (y_index rfl rfl sl22 hp2 (by omega) (by omega)) ?_
            refine rw_p rfl rfl (y_el1 rfl sc5 (hp2 ▸ hR_t.ext0 hm.to).nt encB_len hi rfl) ?_
            refine a_buildSlice (l := [_]) rfl rfl sl22 z5 rfl rfl rfl rfl rfl rfl rfl hm trivial fun m3 w hg_m3 hm hh => ?_
            refine a_append rfl rfl rfl rfl rfl rfl sl22 sl22 z5 rfl rfl (Rd.row0 (hm.get (k := 0) rfl)) rfl ha_x hm 1 rfl (by omega) (by omega) fun p_x cap_x g_x b_x w ha_x hm => ?_
            replace ha_x := ha_x.to (show _ = ((Pl.secX D.sz (Pl.rdS D9 (i : Int)) a BB i).take (k + 1)).flatMap encB by rw [Pl.take_snoc hxk, List.flatMap_append]; rfl)
            refine rw_p rfl rfl (y_assign rfl) ?_
            refine rw_done ?_
            refine gn_bl ?_
            refine gn_sq ?_
            refine HW_text (.pure 0 (.pure 1 (.pure 2 .done))) (by kernel_rfl) ?_
            refine rw_p rfl rfl (y_move rfl) ?_
            refine rw_p rfl rfl (y_add rfl rfl (i64w (by omega) (by omega))) ?_
            refine rw_p rfl rfl (y_assign rfl) ?_
            refine rw_done ?_
            exact next (k + 1, p_x, cap_x, g_x, b_x) (by simp only; omega) ⟨(hm.pick [1] rfl), ha_x, by simp only; omega⟩ ⟨nx k, rfl, rfl, rfl, rfl, rfl, rfl, rfl, rfl, rfl, trivial⟩
        ·
          obtain ⟨k, p_x, cap_x, g_x, b_x⟩ := y
          simp only at hm ha_x hk9 hc3 ⊢
          simp only [decide_eq_false_iff_not] at hc3
          have hke : k = D.sz := by omega
          rw [hke, List.take_of_length_le (by rw [Pl.secX_len]; exact Nat.le_refl _)] at ha_x
          rw [hke]
          have hxle := ha_x.le
          replace hm := hmO.callN hm
          refine HW_exit rfl ?_
          refine gx_sq (gx_lp ?_)
          refine gx_here ?_
          refine gn_sq ?_
          refine HW_seq rfl ?_
          refine HW_text (.pure 0 (.pure 1 (.pure 2 (.act 3 (.pure 4 .done))))) (by kernel_rfl) ?_
          refine rw_p rfl rfl (y_move rfl) ?_
          refine rw_p rfl rfl (y_move rfl) ?_
          refine rw_p rfl rfl (y_move rfl) ?_
          refine a_call rfl rfl rfl go83 (C.eqv (q_put D9 m Z9 _ (OwnZ.right (A := [_, _, _]) hm.ownZ) hz9 p_x cap_x (Pl.secX D.sz (Pl.rdS D9 (i : Int)) a BB i) (i : Int) (ha_x.rd hm 0 rfl) (hm.notR (A := [_, _, _]) ha_x 0 rfl) (by rw [Pl.secX_len]; exact hxle) (by omega)) (by rw [Pl.secX_len])) fun v w hR => ?_
          obtain ⟨rfl, Z2, hz2, hmc⟩ := hR
          refine ⟨trivial, ?_⟩
          replace hm := Mem.callZL (A := [_, _, _]) hm hmc
          refine rw_p rfl rfl (y_assign rfl) ?_
          refine rw_done ?_
          refine gn_sq ?_
          refine HW_seq rfl ?_
          refine HW_text (.pure 0 (.pure 1 .done)) (by kernel_rfl) ?_
          refine rw_p rfl rfl (y_move rfl) ?_
          refine rw_p rfl rfl (y_ne rfl rfl) ?_
          refine rw_done ?_
          refine gn_sq ?_
          refine HW_cond rfl rfl (fun hc5 => ?_) (fun hc5 => ?_)
          ·
            simp only [decide_eq_true_eq] at hc5
            have hRR : (Pl.wrS a BB (Pl.sN D.sz a BB.length) (Pl.sF D.sz a BB.length) D) = (Pl.wCode D9 (i : Int) (Pl.secX D.sz (Pl.rdS D9 (i : Int)) a BB i), Pl.wDv D9 (i : Int) (Pl.secX D.sz (Pl.rdS D9 (i : Int)) a BB i)) := by rw [hR9, show (Pl.sF D.sz a BB.length + Pl.sN D.sz a BB.length) - i = ((Pl.sF D.sz a BB.length + Pl.sN D.sz a BB.length) - (i + 1)) + 1 by omega]; unfold Pl.wrS; rw [if_neg (by omega), hsz, if_pos hc5]
            refine HW_seq rfl ?_
            refine HW_text (.pure 0 (.pure 1 .done)) (by kernel_rfl) ?_
            refine rw_p rfl rfl (y_move rfl) ?_
            refine rw_p rfl rfl (y_assign rfl) ?_
            refine rw_done ?_
            refine gn_sq ?_
            refine HW_ret rfl ?_
            refine gr_bl (gr_sq (gr_lp (gr_bl (gr_sq ?_))))
            refine toR (fin hret rfl (.tmp rfl .nil) .one ?_)
            exact ⟨by rw [hRR] <;> rfl, Z2, by rw [hRR]; exact hz2, (hm.pickT [] 3 rfl)⟩
          ·
            simp only [decide_eq_false_iff_not, Decidable.not_not] at hc5
            have hRR : (Pl.wrS a BB (Pl.sN D.sz a BB.length) (Pl.sF D.sz a BB.length) D) = Pl.wrS a BB ((Pl.sF D.sz a BB.length + Pl.sN D.sz a BB.length) - (i + 1)) (i + 1) (Pl.wDv D9 (i : Int) (Pl.secX D.sz (Pl.rdS D9 (i : Int)) a BB i)) := by rw [hR9, show (Pl.sF D.sz a BB.length + Pl.sN D.sz a BB.length) - i = ((Pl.sF D.sz a BB.length + Pl.sN D.sz a BB.length) - (i + 1)) + 1 by omega]; conv => lhs; unfold Pl.wrS; rw [if_neg (by omega), hsz, if_neg (by omega)]
            have hws := Pl.wDv_sz D9 (i : Int) (Pl.secX D.sz (Pl.rdS D9 (i : Int)) a BB i)
            have hca2 : (Pl.wDv D9 (i : Int) (Pl.secX D.sz (Pl.rdS D9 (i : Int)) a BB i)).ca.length + ((Pl.sF D.sz a BB.length + Pl.sN D.sz a BB.length) - (i + 1)) ≤ 1000000000 := by omega
            refine HW_skip rfl ?_
            refine gn_bl ?_
            refine gn_sq ?_
            refine HW_text (.pure 0 (.pure 1 (.pure 2 .done))) (by kernel_rfl) ?_
            refine rw_p rfl rfl (y_move rfl) ?_
            refine rw_p rfl rfl (y_add rfl rfl (i64w (by omega) (by omega))) ?_
            refine rw_p rfl rfl (y_assign rfl) ?_
            refine rw_done ?_
            exact next (i + 1, _, Z2) (by simp only; omega) ⟨(hm.pickT [1, 2] 3 rfl), hz2, hRR, hws.1.trans hsz, hws.2.1.trans hct, hca2, by simp only; omega, by simp only; omega⟩ ⟨nx i, rfl, rfl, rfl, rfl, rfl, trivial⟩
    ·
      simp only [decide_eq_false_iff_not] at hc1
      have hie : i = (Pl.sF D.sz a BB.length + Pl.sN D.sz a BB.length) := by omega
      have hRR : (Pl.wrS a BB (Pl.sN D.sz a BB.length) (Pl.sF D.sz a BB.length) D) = (0, D9) := by rw [hR9, hie, Nat.sub_self]; rfl
      refine HW_exit rfl ?_
      refine gx_sq (gx_lp ?_)
      refine gx_here ?_
      refine gn_sq ?_
      refine HW_seq rfl ?_
      refine HW_text (.pure 0 .done) (by kernel_rfl) ?_
      refine rw_p rfl rfl (y_assign rfl) ?_
      refine rw_done ?_
      refine gn_sq ?_
      refine HW_ret rfl ?_
      refine toR (fin hret rfl (.tmp rfl .nil) .one ?_)
      exact ⟨by rw [hRR] <;> rfl, Z9, by rw [hRR]; exact hz9, (hm.pickT [] 2 rfl)⟩
  ·
    refine a_alloc rfl rfl z63 hm hh fun m2 w hg_m2 hm hh => ?_
    refine a_call rfl rfl rfl go80 (C.as (v := .agg ⟨[.int .i64 ((Pl.sF D.sz a BB.length : Nat) : Int), .int .i64 ((Pl.sN D.sz a BB.length : Nat) : Int)]⟩) (r20_secs (D.sz : Int) (a : Int) (BB.length : Int) _ (by simp only [Pl.I64]; omega) ha (by simp only [Pl.I64]; omega)) (by rw [Pl.secs_nat o1 (by omega)]; rfl)) fun v w hR => ?_
    obtain ⟨rfl, hE⟩ := hR
    refine ⟨hh.ext hE, ?_⟩
    replace hm := hm.ext hE
    replace hh := hh.ext hE
    refine a_cut ?_
    refine a_store rfl rfl rfl rfl sz63 rfl hm 0 rfl rfl fun w hm => ?_
    refine rw_done ?_
    refine gn_sq ?_
    refine HW_seq rfl ?_
    refine HW_seq rfl ?_
    refine HW_text (.pure 0 (.pure 1 (.pure 2 .done))) (by kernel_rfl) ?_
    refine rw_p rfl rfl (y_fieldAddr rfl fo63_0) ?_
    refine rw_p rfl rfl (y_load rfl sc3 (hm.nt 0 rfl) rfl) ?_
    refine rw_p rfl rfl (y_assign rfl) ?_
    refine rw_done ?_
    refine gn_sq ?_
    refine HW_block rfl ?_
    refine HW_loopK (ι := Nat × Pl.Dv × List (Nat × Blk)) rfl (ks := [0, 1, 2, 7, 8]) (.cons rfl (.cons rfl (.cons rfl (.cons rfl (.cons rfl .nil))))) (fun x => [(9, .int .i64 x.1)]) (fun x w => Mem w0 w (Mn (reals Z)) ((m2, .row 63 [.int .i64 ((Pl.sF D.sz a BB.length : Nat) : Int), .int .i64 ((Pl.sN D.sz a BB.length : Nat) : Int)]) :: (m1, .row 63 [.int .i64 (a : Int), .int .i64 (BB.length : Int)]) :: x.2.2) ∧ RefZ 50 172 5 x.2.1 m x.2.2 ∧ (Pl.wrS a BB (Pl.sN D.sz a BB.length) (Pl.sF D.sz a BB.length) D) = Pl.wrS a BB ((Pl.sF D.sz a BB.length + Pl.sN D.sz a BB.length) - x.1) x.1 x.2.1 ∧ x.2.1.sz = D.sz ∧ x.2.1.cnt = D.cnt ∧ x.2.1.ca.length + ((Pl.sF D.sz a BB.length + Pl.sN D.sz a BB.length) - x.1) ≤ 1000000000 ∧ Pl.sF D.sz a BB.length ≤ x.1 ∧ x.1 ≤ (Pl.sF D.sz a BB.length + Pl.sN D.sz a BB.length)) (fun x => (Pl.sF D.sz a BB.length + Pl.sN D.sz a BB.length) - x.1) (Pl.sF D.sz a BB.length, D, Z) (⟨(hm.pickT [0, 1] 2 rfl), hz, by simp only; rw [Nat.add_sub_cancel_left], rfl, rfl, by simp only; omega, Nat.le_refl _, by simp only; omega⟩) ⟨rfl, trivial⟩ (fun x w hM => ?_)
    obtain ⟨hm, hz9, hR9, hsz, hct, hca, hlo, hhi⟩ := hM
    obtain ⟨i, D9, Z9⟩ := x
    simp only at hm hz9 hR9 hsz hct hca hlo hhi ⊢
    refine HW_seq rfl ?_
    refine HW_seq rfl ?_
    refine HW_text (.pure 0 (.pure 1 (.pure 2 (.pure 3 (.pure 4 (.pure 5 (.pure 6 .done))))))) (by kernel_rfl) ?_
    refine rw_p rfl rfl (y_move rfl) ?_
    refine rw_p rfl rfl (y_fieldAddr rfl fo63_0) ?_
    refine rw_p rfl rfl (y_load rfl sc3 (hm.nt 0 rfl) rfl) ?_
    refine rw_p rfl rfl (y_fieldAddr rfl fo63_1) ?_
    refine rw_p rfl rfl (y_load rfl sc3 (hm.nt 0 rfl) rfl) ?_
    refine rw_p rfl rfl (y_add rfl rfl (addK _ (by omega))) ?_
    refine rw_p rfl rfl (y_lt rfl rfl) ?_
    refine rw_done ?_
    refine gn_sq ?_
    refine HW_cond rfl rfl (fun hc1 => ?_) (fun hc1 => ?_)
    ·
      simp only [decide_eq_true_eq] at hc1
      have hse := Pl.sec_le (sz := D.sz) (show i < D.cnt by omega)
      have hii : i ≤ i * D.sz := Nat.le_mul_of_pos_right _ o1
      refine HW_skip rfl ?_
      refine gn_sq ?_
      refine HW_seq rfl ?_
      refine HW_block rfl ?_
      refine HW_seq rfl ?_
      refine HW_text (.pure 0 (.pure 1 (.act 2 (.pure 3 (.pure 4 (.pure 5 (.pure 6 (.pure 7 .done)))))))) (by kernel_rfl) ?_
      refine rw_p rfl rfl (y_move rfl) ?_
      refine rw_p rfl rfl (y_move rfl) ?_
      refine a_call rfl rfl rfl go81 (q_read D9 m Z9 _ (OwnZ.right (A := [_, _]) hm.ownZ) hz9 (by omega) (i : Int)) fun v w hR => ?_
      obtain ⟨p_t, cap_t, rfl, hR_t, hE⟩ := hR
      refine ⟨trivial, ?_⟩
      replace hm := hm.ext hE
      refine rw_p rfl rfl (y_move rfl) ?_
      refine rw_p rfl rfl (y_extract rfl rfl) ?_
      refine rw_p rfl rfl (y_extract rfl rfl) ?_
      refine rw_p rfl rfl (y_assign rfl) ?_
      refine rw_p rfl rfl (y_assign rfl) ?_
      refine rw_done ?_
      refine gn_sq ?_
      refine HW_seq rfl ?_
      refine HW_seq rfl ?_
      refine HW_text (.pure 0 (.pure 1 .done)) (by kernel_rfl) ?_
      refine rw_p rfl rfl (y_move rfl) ?_
      refine rw_p rfl rfl (y_ne rfl rfl) ?_
      refine rw_done ?_
      refine gn_sq ?_
      refine HW_cond rfl rfl (fun hc2 => ?_) (fun hc2 => ?_)
      ·
        simp only [decide_eq_true_eq] at hc2
        have hRR : (Pl.wrS a BB (Pl.sN D.sz a BB.length) (Pl.sF D.sz a BB.length) D) = (Pl.codeAt D9 (i : Int), D9) := by rw [hR9, show (Pl.sF D.sz a BB.length + Pl.sN D.sz a BB.length) - i = ((Pl.sF D.sz a BB.length + Pl.sN D.sz a BB.length) - (i + 1)) + 1 by omega]; unfold Pl.wrS; rw [if_pos hc2]
        refine HW_seq rfl ?_
        refine HW_text (.pure 0 (.pure 1 .done)) (by kernel_rfl) ?_
        refine rw_p rfl rfl (y_move rfl) ?_
        refine rw_p rfl rfl (y_assign rfl) ?_
        refine rw_done ?_
        refine gn_sq ?_
        refine HW_ret rfl ?_
        refine gr_sq (gr_bl (gr_sq (gr_lp (gr_bl (gr_sq ?_)))))
        refine toR (fin hret rfl (.tmp rfl .nil) .one ?_)
        exact ⟨by rw [hRR] <;> rfl, Z9, by rw [hRR]; exact hz9, (hm.pickT [] 2 rfl)⟩
      ·
        simp only [decide_eq_false_iff_not, Decidable.not_not] at hc2
        have hvl : (Pl.rdS D9 (i : Int)).length = D.sz := (Pl.rdS_len hz9.ok (i := i) (by omega)).trans hsz
        rw [hc2, if_pos rfl, hvl]
        rw [if_pos hc2] at hR_t
        refine HW_skip rfl ?_
        refine gn_sq ?_
        refine HW_seq rfl ?_
        refine HW_text (.pure 0 .done) (by kernel_rfl) ?_
        refine rw_p rfl rfl (y_assign rfl) ?_
        refine rw_done ?_
        refine gn_sq ?_
        refine HW_seq rfl ?_
        refine HW_seq rfl ?_
        refine HW_text (.pure 0 .done) (by kernel_rfl) ?_
        refine rw_p rfl rfl (y_assign rfl) ?_
        refine rw_done ?_
        refine gn_sq ?_
        refine HW_block rfl ?_
        rename World => w9
        have hmO := hm
        have hm := (Mem.start w9).gapIn
        have ha_x := Acc.nil 5 1 none 0
        have hT7 : w9.heap[m1]? = some (Blk.row 63 [.int .i64 (a : Int), .int .i64 (BB.length : Int)]).toObj := hmO.get (k := 1) rfl
        obtain ⟨pbY, cbY, pcY, ccY, csY, hP9, -⟩ := hz9.row (OwnZ.right (A := [_, _]) hmO.ownZ)
        rw [show rfV D9 pbY cbY pcY ccY = [.int .i64 (D.sz : Int), .int .i64 (D9.cnt : Int), .slice pbY D9.dk.length cbY, .slice pcY D9.ca.length ccY, .int .i64 D9.wr, .int .u64 D9.kp, .bool D9.dn, .int .i64 D9.sW, .int .i64 D9.sF, .int .i64 D9.sC, .int .i64 D9.sH, .int .i64 D9.sM] by rw [← hsz]; rfl] at hP9
        have hq9 := hq.extN hmO.to hqX
        refine HW_loopK (ι := Nat × Option Addr × Nat × Nat × Blk) rfl (ks := [0, 1, 2, 7, 8, 9, 10, 11]) (.cons rfl (.cons rfl (.cons rfl (.cons rfl (.cons rfl (.cons rfl (.cons rfl (.cons rfl .nil)))))))) (fun y => [(13, .int .i64 y.1), (12, .slice y.2.1 y.1 y.2.2.1)]) (fun y w => Mem w9 w No [(y.2.2.2.1, y.2.2.2.2)] ∧ Acc 5 1 y.2.1 y.1 y.2.2.1 (((Pl.secX D.sz (Pl.rdS D9 (i : Int)) a BB i).take y.1).flatMap encB) y.2.2.2.1 y.2.2.2.2 ∧ y.1 ≤ D.sz) (fun y => D.sz - y.1) (0, none, 0, 0, .gap) (⟨hm, ha_x, Nat.zero_le _⟩) ⟨rfl, rfl, trivial⟩ (fun y w hM => ?_)
        obtain ⟨hm, ha_x, hk9⟩ := hM
        refine HW_seq rfl ?_
        refine HW_seq rfl ?_
        refine HW_text (.pure 0 (.pure 1 (.pure 2 (.pure 3 (.pure 4 (.pure 5 .done)))))) (by kernel_rfl) ?_
        refine rw_p rfl rfl (y_move rfl) ?_
        refine rw_p rfl rfl (y_move rfl) ?_
        refine rw_p rfl rfl (y_nil rfl) ?_
        refine rw_p rfl rfl (y_fieldAddr rfl fo50_0) ?_
        refine rw_p rfl rfl (y_load rfl sc3 (nowT ((hm.to.same _ (Array.getElem?_eq_some_iff.1 hP9).1 id).trans hP9)) rfl) ?_
        refine rw_p rfl rfl (y_lt rfl rfl) ?_
        refine rw_done ?_
        refine gn_sq ?_
        refine HW_cond rfl rfl (fun hc3 => ?_) (fun hc3 => ?_)
        ·
          obtain ⟨k, p_x, cap_x, g_x, b_x⟩ := y
          simp only at hm ha_x hk9 hc3 ⊢
          simp only [decide_eq_true_eq] at hc3
          have hxk := Pl.secX_get (old := Pl.rdS D9 (i : Int)) (a := a) (bs := BB) (i := i) (k := k) (by omega) hvl
          refine HW_skip rfl ?_
          refine gn_sq ?_
          refine HW_seq rfl ?_
          refine HW_block rfl ?_
          refine HW_seq rfl ?_
          refine HW_text (.pure 0 (.pure 1 (.pure 2 (.pure 3 (.pure 4 (.pure 5 (.pure 6 (.pure 7 (.pure 8 .done))))))))) (by kernel_rfl) ?_
          refine rw_p rfl rfl (y_move rfl) ?_
          refine rw_p rfl rfl (y_move rfl) ?_
          refine rw_p rfl rfl (y_nil rfl) ?_
          refine rw_p rfl rfl (y_fieldAddr rfl fo50_0) ?_
          refine rw_p rfl rfl (y_load rfl sc3 (nowT ((hm.to.same _ (Array.getElem?_eq_some_iff.1 hP9).1 id).trans hP9)) rfl) ?_
          refine rw_p rfl rfl (y_mul rfl rfl (mulN (by omega))) ?_
          refine rw_p rfl rfl (y_move rfl) ?_
          refine rw_p rfl rfl (y_add rfl rfl (addK _ (by omega))) ?_
          refine rw_p rfl rfl (y_assign rfl) ?_
          refine rw_done ?_
          refine gn_sq ?_
          refine HW_seq rfl ?_
          refine HW_text (.pure 0 (.pure 1 (.act 2 .done))) (by kernel_rfl) ?_
          refine rw_p rfl rfl (y_loadA (s := 2) (vs := [_, _]) rfl ag63 (nowT ((hm.to.same _ (Array.getElem?_eq_some_iff.1 hT7).1 id).trans hT7)) rfl) ?_
          refine rw_p rfl rfl (y_move rfl) ?_
          refine a_call rfl rfl rfl go82 (r1_has (a : Int) (BB.length : Int) ((i * D.sz + k : Nat) : Int) _ (by simp only [Pl.I64]; omega)) fun v w hR => ?_
          obtain ⟨rfl, hE⟩ := hR
          refine ⟨trivial, ?_⟩
          replace hm := hm.ext hE
          refine rw_done ?_
          refine gn_sq ?_
          refine HW_cond rfl rfl (fun hc4 => ?_) (fun hc4 => ?_)
          ·
            simp only [decide_eq_true_eq] at hc4
            rw [if_pos (by omega)] at hxk
            obtain ⟨c, hi⟩ : ∃ y_, BB[i * D.sz + k - a]? = some y_ := ⟨_, List.getElem?_eq_getElem (by omega)⟩
            rw [hi] at hxk
            obtain ⟨b2, o2, hp2⟩ := hq9.atI encB_len (by decide) hi
            refine HW_text (.pure 0 (.pure 1 (.pure 2 (.pure 3 (.pure 4 (.pure 5 (.pure 6 (.act 7 (.act 8 (.pure 9 .done)))))))))) (by kernel_rfl) ?_
            refine rw_p rfl rfl (y_move rfl) ?_
            refine rw_p rfl rfl (y_move rfl) ?_
            refine rw_p rfl rfl (y_move rfl) ?_
            refine rw_p rfl rfl (y_move rfl) ?_
            refine rw_p rfl rfl (y_sub rfl rfl (subK _ (by omega) (by omega))) ?_
            refine rw_p rfl rfl (y_index rfl rfl sl22 hp2 (by omega) (by omega)) ?_
            refine rw_p rfl rfl (y_el1 rfl sc5 (hp2 ▸ hq9.ext0 hm.to).nt encB_len hi rfl) ?_
            refine a_buildSlice (l := [_]) rfl rfl sl22 z5 rfl rfl rfl rfl rfl rfl rfl hm trivial fun m3 w hg_m3 hm hh => ?_
            refine a_append rfl rfl rfl rfl rfl rfl sl22 sl22 z5 rfl rfl (Rd.row0 (hm.get (k := 0) rfl)) rfl ha_x hm 1 rfl (by omega) (by omega) fun p_x cap_x g_x b_x w ha_x hm => ?_
            replace ha_x := ha_x.to (show _ = ((Pl.secX D.sz (Pl.rdS D9 (i : Int)) a BB i).take (k + 1)).flatMap encB by rw [Pl.take_snoc hxk, List.flatMap_append]; rfl)
            refine rw_p rfl rfl (y_assign rfl) ?_
            refine rw_done ?_
            refine gn_bl ?_
            refine gn_sq ?_
            refine HW_text (.pure 0 (.pure 1 (.pure 2 .done))) (by kernel_rfl) ?_
            refine rw_p rfl rfl (y_move rfl) ?_
            refine rw_p rfl rfl (y_add rfl rfl (i64w (by omega) (by omega))) ?_
            refine rw_p rfl rfl (y_assign rfl) ?_
            refine rw_done ?_
            exact next (k + 1, p_x, cap_x, g_x, b_x) (by simp only; omega) ⟨(hm.pick [1] rfl), ha_x, by simp only; omega⟩ ⟨nx k, rfl, rfl, rfl, rfl, rfl, rfl, rfl, rfl, rfl, trivial⟩
          ·
            simp only [decide_eq_false_iff_not] at hc4
            rw [if_neg (by omega)] at hxk
            obtain ⟨c, hi⟩ : ∃ y_, (Pl.rdS D9 (i : Int))[k]? = some y_ := ⟨_, List.getElem?_eq_getElem (by omega)⟩
            rw [hi] at hxk
            obtain ⟨b2, o2, hp2⟩ := hR_t.atI encB_len (by decide) hi
            refine HW_text (.pure 0 (.pure 1 (.pure 2 (.pure 3 (.pure 4 (.act 5 (.act 6 (.pure 7 .done)))))))) (by kernel_rfl) ?_
            refine rw_p rfl rfl (y_move rfl) ?_
            refine rw_p rfl rfl (y_move rfl) ?_
            refine rw_p rfl rfl (y_move rfl) ?_
            refine rw_p rfl rfl (y_index rfl rfl sl22 hp2 (by omega) (by omega)) ?_
            refine rw_p rfl rfl (y_el1 rfl sc5 (hp2 ▸ hR_t.ext0 hm.to).nt encB_len hi rfl) ?_
            refine a_buildSlice (l := [_]) rfl rfl sl22 z5 rfl rfl rfl rfl rfl rfl rfl hm trivial fun m3 w hg_m3 hm hh => ?_
            refine a_append rfl rfl rfl rfl rfl rfl sl22 sl22 z5 rfl rfl (Rd.row0 (hm.get (k := 0) rfl)) rfl ha_x hm 1 rfl (by omega) (by omega) fun p_x cap_x g_x b_x w ha_x hm => ?_
            replace ha_x := ha_x.to (show _ = ((Pl.secX D.sz (Pl.rdS D9 (i : Int)) a BB i).take (k + 1)).flatMap encB by rw [Pl.take_snoc hxk, List.flatMap_append]; rfl)
            refine rw_p rfl rfl (y_assign rfl) ?_
            refine rw_done ?_
            refine gn_bl ?_
            refine gn_sq ?_
            refine HW_text (.pure 0 (.pure 1 (.pure 2 .done))) (by kernel_rfl) ?_
            refine rw_p rfl rfl (y_move rfl) ?_
            refine rw_p rfl rfl (y_add rfl rfl (i64w (by omega) (by omega))) ?_
            refine rw_p rfl rfl (y_assign rfl) ?_
            refine rw_done ?_
            exact next (k + 1, p_x, cap_x, g_x, b_x) (by simp only; omega) ⟨(hm.pick [1] rfl), ha_x, by simp only; omega⟩ ⟨nx k, rfl, rfl, rfl, rfl, rfl, rfl, rfl, rfl, rfl, trivial⟩
        ·
          obtain ⟨k, p_x, cap_x, g_x, b_x⟩ := y
          simp only at hm ha_x hk9 hc3 ⊢
          simp only [decide_eq_false_iff_not] at hc3
          have hke : k = D.sz := by omega
          rw [hke, List.take_of_length_le (by rw [Pl.secX_len]; exact Nat.le_refl _)] at ha_x
          rw [hke]
          have hxle := ha_x.le
          replace hm := hmO.callN hm
          refine HW_exit rfl ?_
          refine gx_sq (gx_lp ?_)
          refine gx_here ?_
          refine gn_sq ?_
          refine HW_seq rfl ?_
          refine HW_text (.pure 0 (.pure 1 (.pure 2 (.act 3 (.pure 4 .done))))) (by kernel_rfl) ?_
          refine rw_p rfl rfl (y_move rfl) ?_
          refine rw_p rfl rfl (y_move rfl) ?_
          refine rw_p rfl rfl (y_move rfl) ?_
          refine a_call rfl rfl rfl go83 (C.eqv (q_put D9 m Z9 _ (OwnZ.right (A := [_, _, _]) hm.ownZ) hz9 p_x cap_x (Pl.secX D.sz (Pl.rdS D9 (i : Int)) a BB i) (i : Int) (ha_x.rd hm 0 rfl) (hm.notR (A := [_, _, _]) ha_x 0 rfl) (by rw [Pl.secX_len]; exact hxle) (by omega)) (by rw [Pl.secX_len])) fun v w hR => ?_
          obtain ⟨rfl, Z2, hz2, hmc⟩ := hR
          refine ⟨trivial, ?_⟩
          replace hm := Mem.callZL (A := [_, _, _]) hm hmc
          refine rw_p rfl rfl (y_assign rfl) ?_
          refine rw_done ?_
          refine gn_sq ?_
          refine HW_seq rfl ?_
          refine HW_text (.pure 0 (.pure 1 .done)) (by kernel_rfl) ?_
          refine rw_p rfl rfl (y_move rfl) ?_
          refine rw_p rfl rfl (y_ne rfl rfl) ?_
          refine rw_done ?_
          refine gn_sq ?_
          refine HW_cond rfl rfl (fun hc5 => ?_) (fun hc5 => ?_)
          ·
            simp only [decide_eq_true_eq] at hc5
            have hRR : (Pl.wrS a BB (Pl.sN D.sz a BB.length) (Pl.sF D.sz a BB.length) D) = (Pl.wCode D9 (i : Int) (Pl.secX D.sz (Pl.rdS D9 (i : Int)) a BB i), Pl.wDv D9 (i : Int) (Pl.secX D.sz (Pl.rdS D9 (i : Int)) a BB i)) := by rw [hR9, show (Pl.sF D.sz a BB.length + Pl.sN D.sz a BB.length) - i = ((Pl.sF D.sz a BB.length + Pl.sN D.sz a BB.length) - (i + 1)) + 1 by omega]; unfold Pl.wrS; rw [if_neg (by omega), hsz, if_pos hc5]
            refine HW_seq rfl ?_
            refine HW_text (.pure 0 (.pure 1 .done)) (by kernel_rfl) ?_
            refine rw_p rfl rfl (y_move rfl) ?_
            refine rw_p rfl rfl (y_assign rfl) ?_
            refine rw_done ?_
            refine gn_sq ?_
            refine HW_ret rfl ?_
            refine gr_bl (gr_sq (gr_lp (gr_bl (gr_sq ?_))))
            refine toR (fin hret rfl (.tmp rfl .nil) .one ?_)
            exact ⟨by rw [hRR] <;> rfl, Z2, by rw [hRR]; exact hz2, (hm.pickT [] 3 rfl)⟩
          ·
            simp only [decide_eq_false_iff_not, Decidable.not_not] at hc5
            have hRR : (Pl.wrS a BB (Pl.sN D.sz a BB.length) (Pl.sF D.sz a BB.length) D) = Pl.wrS a BB ((Pl.sF D.sz a BB.length + Pl.sN D.sz a BB.length) - (i + 1)) (i + 1) (Pl.wDv D9 (i : Int) (Pl.secX D.sz (Pl.rdS D9 (i : Int)) a BB i)) := by rw [hR9, show (Pl.sF D.sz a BB.length + Pl.sN D.sz a BB.length) - i = ((Pl.sF D.sz a BB.length + Pl.sN D.sz a BB.length) - (i + 1)) + 1 by omega]; conv => lhs; unfold Pl.wrS; rw [if_neg (by omega), hsz, if_neg (by omega)]
            have hws := Pl.wDv_sz D9 (i : Int) (Pl.secX D.sz (Pl.rdS D9 (i : Int)) a BB i)
            have hca2 : (Pl.wDv D9 (i : Int) (Pl.secX D.sz (Pl.rdS D9 (i : Int)) a BB i)).ca.length + ((Pl.sF D.sz a BB.length + Pl.sN D.sz a BB.length) - (i + 1)) ≤ 1000000000 := by omega
            refine HW_skip rfl ?_
            refine gn_bl ?_
            refine gn_sq ?_
            refine HW_text (.pure 0 (.pure 1 (.pure 2 .done))) (by kernel_rfl) ?_
            refine rw_p rfl rfl (y_move rfl) ?_
            refine rw_p rfl rfl (y_add rfl rfl (i64w (by omega) (by omega))) ?_
            refine rw_p rfl rfl (y_assign rfl) ?_
            refine rw_done ?_
            exact next (i + 1, _, Z2) (by simp only; omega) ⟨(hm.pickT [1, 2] 3 rfl), hz2, hRR, hws.1.trans hsz, hws.2.1.trans hct, hca2, by simp only; omega, by simp only; omega⟩ ⟨nx i, rfl, rfl, rfl, rfl, rfl, trivial⟩
    ·
      simp only [decide_eq_false_iff_not] at hc1
      have hie : i = (Pl.sF D.sz a BB.length + Pl.sN D.sz a BB.length) := by omega
      have hRR : (Pl.wrS a BB (Pl.sN D.sz a BB.length) (Pl.sF D.sz a BB.length) D) = (0, D9) := by rw [hR9, hie, Nat.sub_self]; rfl
      refine HW_exit rfl ?_
      refine gx_sq (gx_lp ?_)
      refine gx_here ?_
      refine gn_sq ?_
      refine HW_seq rfl ?_
      refine HW_text (.pure 0 .done) (by kernel_rfl) ?_
      refine rw_p rfl rfl (y_assign rfl) ?_
      refine rw_done ?_
      refine gn_sq ?_
      refine HW_ret rfl ?_
      refine toR (fin hret rfl (.tmp rfl .nil) .one ?_)
      exact ⟨by rw [hRR] <;> rfl, Z9, by rw [hRR]; exact hz9, (hm.pickT [] 2 rfl)⟩

end Go.Proofs.YthailbggeafckaaGreat
