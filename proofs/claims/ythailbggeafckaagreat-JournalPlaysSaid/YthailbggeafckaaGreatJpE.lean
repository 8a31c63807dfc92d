/- Contracts of functions of the program: what each returns. Conditions: the hypotheses of each theorem. -/
import Derived.Test.YthailbggeafckaaGreatJpD
import Derived.Test.YthailbggeafckaaGreatCyJ
set_option linter.unusedVariables false
set_option linter.unusedSimpArgs false
namespace Go.Proofs.YthailbggeafckaaGreat
open Go Go.Cx

theorem ag43 : aggS Tryz.prog 43 = some 3 := by kernel_rfl
theorem fo43_2 : fldO Tryz.prog 43 2 = some 2 := by kernel_rfl
theorem sl26 : slcO Tryz.prog 26 = some (43, 3, 40) := by kernel_rfl
theorem sz43 : szO Tryz.prog 43 = some 3 := by kernel_rfl
theorem z43 : zer Tryz.prog 43 = some [.int .i64 0, .int .i64 0, .slice none 0 0] := by kernel_rfl
theorem ag25 : aggS Tryz.prog 25 = some 6 := by kernel_rfl
theorem fo25_3 : fldO Tryz.prog 25 3 = some 3 := by kernel_rfl
theorem fo25_4 : fldO Tryz.prog 25 4 = some 4 := by kernel_rfl
theorem fo25_5 : fldO Tryz.prog 25 5 = some 5 := by kernel_rfl
theorem fo43_0 : fldO Tryz.prog 43 0 = some 0 := by kernel_rfl
theorem fo43_1 : fldO Tryz.prog 43 1 = some 1 := by kernel_rfl
theorem go10 : isGo Tryz.prog 10 = true := by kernel_rfl
theorem go12 : isGo Tryz.prog 12 = true := by kernel_rfl
theorem go13 : isGo Tryz.prog 13 = true := by kernel_rfl
theorem go14 : isGo Tryz.prog 14 = true := by kernel_rfl
theorem go4 : isGo Tryz.prog 4 = true := by kernel_rfl
theorem go5 : isGo Tryz.prog 5 = true := by kernel_rfl
theorem go6 : isGo Tryz.prog 6 = true := by kernel_rfl
theorem go8 : isGo Tryz.prog 8 = true := by kernel_rfl
theorem pb28 : ptrB Tryz.prog 28 = true := by kernel_rfl

structure PyS where
  i : Nat
  D : Pl.Dv
  S : Pl.Jn
  Zw : List (Nat × Blk)
  Zr : List (Nat × Blk)
  BB : List (Nat × Blk)
  jp : Option Addr
  jc : Nat
  jg : Nat
  jb : Blk
  pr : Option Addr
  cr : Nat
theorem rdP {B L : List (Nat × Blk)} {U8 : Nat} {p : Option Addr} {c : Nat} {bs : List UInt8} {w0 w : World} (h : Rd w0 p (bs.flatMap encB) ∨ RdX B U8 p c bs) (hm : Mem w0 w No L) (hs : ∀ e, e ∈ B → e ∈ L) : Rd w p (bs.flatMap encB) := h.elim (fun h => h.ext0 hm.to) (fun h => h.rd hm hs)
/-- a device that does not crash, and its journal -/
structure JU (sz cnt : Nat) (D : Pl.Dv) (S : Pl.Jn) : Prop where
  ok : Pl.okDv D
  dn : D.dn = false
  wr : D.wr < 0
  ca : D.ca = []
  hsz : D.sz = sz
  hcnt : D.cnt = cnt
  nx : 0 ≤ S.nx ∧ S.nx ≤ 18446744073709551615
  len : S.la.bs.length ≤ 1048576
  la0 : S.has = false → S.la = Pl.rc0
theorem jopen_la0 {D : Pl.Dv} {f N : Nat} {k : Int} (h : (Pl.jopen D f N k).has = false) : (Pl.jopen D f N k).la = Pl.rc0 := by
  have h1 : decide (0 < ((Pl.jrecs D f N).filter fun r => decide (r.id = k)).length) = false := h
  have h2 : ((Pl.jrecs D f N).filter fun r => decide (r.id = k)) = [] := List.length_eq_zero_iff.1 (by have := of_decide_eq_false h1; omega)
  show Pl.bestC ((Pl.jrecs D f N).filter fun r => decide (r.id = k)) = _
  rw [h2]; rfl
theorem jopen_lenP {D : Pl.Dv} (h : Pl.okDv D) (f N : Nat) (k : Int) : (Pl.jopen D f N k).la.bs.length ≤ 1048576 := by
  show (Pl.bestC ((Pl.jrecs D f N).filter fun r => decide (r.id = k))).bs.length ≤ _
  by_cases h0 : ((Pl.jrecs D f N).filter fun r => decide (r.id = k)) = []
  · rw [h0]; decide
  · exact Pl.jrecs_len h (List.mem_filter.1 (Pl.bestC_mem h0)).1
theorem JU_open {D : Pl.Dv} (h : Pl.okDv D) (hd : D.dn = false) (hw : D.wr < 0) (hc : D.ca = []) (f N : Nat) (k : Int) : JU D.sz D.cnt D (Pl.jopen D f N k) :=
  ⟨h, hd, hw, hc, rfl, rfl, Pl.jnext_rng _, jopen_lenP h f N k, jopen_la0⟩
theorem wrS_wr (a : Nat) (bs : List UInt8) : ∀ (n i : Nat) (D : Pl.Dv), Pl.okDv D → D.dn = false → D.wr < 0 → i + n ≤ D.cnt → D.ca.length + n ≤ 1000000000 → (Pl.wrS a bs n i D).1 = 0 ∧ (Pl.wrS a bs n i D).2.wr = D.wr ∧ (Pl.wrS a bs n i D).2.dn = false
  | 0, i, D, h, hd, hw, hi, hl => ⟨rfl, rfl, hd⟩
  | n + 1, i, D, h, hd, hw, hi, hl => by
    obtain ⟨x, hx⟩ : ∃ x, Pl.secX D.sz (Pl.rdS D (i : Int)) a bs i = x := ⟨_, rfl⟩
    have hc : Pl.codeAt D (i : Int) = 0 := by unfold Pl.codeAt; rw [if_neg (by simp [hd]), if_neg (by omega)]
    have hxl : x.length = D.sz := by rw [← hx, Pl.secX_len]
    have hwc : Pl.wCode D (i : Int) x = 0 := by rw [Pl.wCode_cr hc hxl, if_neg (by omega)]
    have hwd : Pl.wDv D (i : Int) x = Pl.wAdd D (i : Int) x := Pl.wDv_off hc hxl hw
    have hok := Pl.ok_add h hc hxl (by omega)
    have e : Pl.wrS a bs (n + 1) i D = Pl.wrS a bs n (i + 1) (Pl.wAdd D (i : Int) x) := by
      simp only [Pl.wrS]
      rw [if_neg (by omega), hx, if_neg (by omega), hwd]
    rw [e]
    exact wrS_wr a bs n (i + 1) _ hok hd hw (by show i + 1 + n ≤ D.cnt; omega) (by show (D.ca ++ [((i : Int).toNat, x)]).length + n ≤ _; rw [List.length_append, List.length_singleton]; omega)
theorem JU_step {sz cnt f N : Nat} {b : Int} {D : Pl.Dv} {S : Pl.Jn} {r : Pl.Rc} (h : JU sz cnt D S) (h2 : f + 2 * N ≤ cnt) (hb : b + 44 ≤ (N : Int) * (sz : Int)) (hl : r.bs.length ≤ 200) : JU sz cnt (Pl.japp D f N b S r).2.1 (Pl.japp D f N b S r).2.2 := by
  by_cases ha : Pl.acc b r
  · have h2D : f + 2 * N ≤ D.cnt := by rw [h.hcnt]; exact h2
    have hbD : b + 44 ≤ (N : Int) * (D.sz : Int) := by rw [h.hsz]; exact hb
    have hcast : ((N * D.sz : Nat) : Int) = (N : Int) * (D.sz : Int) := Int.natCast_mul N D.sz
    have hEl := Pl.renc_len r
    have ha2 := ha.2
    have hon : Pl.onD D ((Pl.jat D f N (Pl.jslotN S) : Nat) : Int) ((Pl.renc r).length : Int) = true := Pl.jon h.ok h2D (Pl.jslot_lt S) (by omega)
    have ho := Pl.onD_iff.1 hon
    have hcz := h.ok.max
    have hcd : D.cnt ≤ D.cnt * D.sz := Nat.le_mul_of_pos_right _ h.ok.sz
    have hcn := Pl.s_cnt (sz := D.sz) (a := Pl.jat D f N (Pl.jslotN S)) (b := (Pl.renc r).length) (cnt := D.cnt) h.ok.sz (by omega) h.ok.cnt
    have w := wrS_wr (Pl.jat D f N (Pl.jslotN S)) (Pl.renc r) (Pl.sN D.sz (Pl.jat D f N (Pl.jslotN S)) (Pl.renc r).length) (Pl.sF D.sz (Pl.jat D f N (Pl.jslotN S)) (Pl.renc r).length) D h.ok h.dn h.wr hcn (by rw [h.ca]; simp only [List.length_nil]; omega)
    have e : Pl.japp D f N b S r = Pl.jgo D f N S r := if_pos ha
    have hwr : (Pl.japp D f N b S r).2.1.wr = D.wr := by
      rw [e]
      unfold Pl.jgo Pl.jwr
      rw [if_neg (fun h9 => h9 w.1)]
      have hf : Pl.fCode (Pl.wrS (Pl.jat D f N (Pl.jslotN S)) (Pl.renc r) (Pl.sN D.sz (Pl.jat D f N (Pl.jslotN S)) (Pl.renc r).length) (Pl.sF D.sz (Pl.jat D f N (Pl.jslotN S)) (Pl.renc r).length) D).2 = 0 := by unfold Pl.fCode; rw [w.2.2]; rfl
      rw [if_neg (fun h9 => h9 hf)]
      show (Pl.fDv _).wr = _
      unfold Pl.fDv
      rw [w.2.2]
      exact w.2.1
    rcases Pl.japp_gen h.ok h.dn h.ca h2D hbD ha with ⟨j1, j2, j3⟩ | ⟨j1, j2, j3⟩
    · rw [j2]
      exact ⟨j3.ok, j3.dn, by rw [hwr]; exact h.wr, j3.ca, j3.sz.trans h.hsz, j3.cnt.trans h.hcnt, Pl.u64_rng _, by show r.bs.length ≤ _; omega, fun h9 => by cases h9⟩
    · exfalso
      rw [e] at j1
      unfold Pl.jgo Pl.jwr at j1
      rw [if_neg (fun h9 => h9 w.1)] at j1
      have hf : Pl.fCode (Pl.wrS (Pl.jat D f N (Pl.jslotN S)) (Pl.renc r) (Pl.sN D.sz (Pl.jat D f N (Pl.jslotN S)) (Pl.renc r).length) (Pl.sF D.sz (Pl.jat D f N (Pl.jslotN S)) (Pl.renc r).length) D).2 = 0 := by unfold Pl.fCode; rw [w.2.2]; rfl
      rw [if_neg (fun h9 => h9 hf)] at j1
      cases j1
  · rw [Pl.japp_no ha]; exact h

theorem law_few (p : Option Addr) (cap : Nat) (xs : List EnV) (w0 : World) (hx : Rd w0 p (xs.flatMap encEn)) (hl : xs.length ≤ 9223372036854775807) : C Tryz.prog 5 [.slice p xs.length cap] w0 fun v w' => v = .bool (fewB xs) ∧ Ext No w0 w' := by
  refine C_of Tryz.func5 rfl rfl rfl fun κ hret hnorm => ?_
  have hm := Mem.start w0
  refine HW_seq rfl ?_
  refine HW_text (.pure 0 .done) (by kernel_rfl) ?_
  refine rw_p rfl rfl (y_assign rfl) ?_
  refine rw_done ?_
  refine gn_sq ?_
  refine HW_seq rfl ?_
  refine HW_seq rfl ?_
  refine HW_text (.pure 0 (.pure 1 (.pure 2 .done))) (by kernel_rfl) ?_
  refine rw_p rfl rfl (y_move rfl) ?_
  refine rw_p rfl rfl (y_len rfl rfl sl26) ?_
  refine rw_p rfl rfl (y_gt rfl rfl) ?_
  refine rw_done ?_
  refine gn_sq ?_
  refine HW_cond rfl rfl (fun hc0 => ?_) (fun hc0 => ?_)
  ·
    simp only [decide_eq_true_eq] at hc0
    refine HW_seq rfl ?_
    refine HW_text (.pure 0 .done) (by kernel_rfl) ?_
    refine rw_p rfl rfl (y_assign rfl) ?_
    refine rw_done ?_
    refine gn_sq ?_
    refine HW_ret rfl ?_
    refine gr_sq ?_
    refine toR (fin hret rfl (.tmp rfl .nil) .one ?_)
    exact ⟨by unfold fewB; rw [decide_eq_false (by omega)]; rfl, hm.to⟩
  ·
    simp only [decide_eq_false_iff_not] at hc0
    refine HW_skip rfl ?_
    refine gn_sq ?_
    refine HW_seq rfl ?_
    refine HW_seq rfl ?_
    refine HW_text (.pure 0 (.pure 1 (.pure 2 .done))) (by kernel_rfl) ?_
    refine rw_p rfl rfl (y_move rfl) ?_
    refine rw_p rfl rfl (y_len rfl rfl sl26) ?_
    refine rw_p rfl rfl (y_move rfl) ?_
    refine rw_done ?_
    refine gn_sq ?_
    refine HW_block rfl ?_
    refine HW_loopK (ι := Nat) rfl (ks := [8, 9]) (.cons rfl (.cons rfl .nil)) (fun k => [(10, .int .i64 k)]) (fun k w => Mem w0 w No [] ∧ k ≤ xs.length ∧ ∀ y ∈ xs.take k, y.d.bs.length ≤ 200) (fun k => xs.length - k) 0 (⟨hm, Nat.zero_le _, by simp⟩) ⟨rfl, trivial⟩ (fun k w hM => ?_)
    obtain ⟨hm, hk, h200⟩ := hM
    refine HW_seq rfl ?_
    refine HW_text (.pure 0 .done) (by kernel_rfl) ?_
    refine rw_p rfl rfl (y_lt rfl rfl) ?_
    refine rw_done ?_
    refine gn_sq ?_
    refine HW_seq rfl ?_
    refine HW_cond rfl rfl (fun hc1 => ?_) (fun hc1 => ?_)
    ·
      simp only [decide_eq_true_eq] at hc1
      obtain ⟨e, hi⟩ : ∃ y_, xs[k]? = some y_ := ⟨_, List.getElem?_eq_getElem (by omega)⟩
      obtain ⟨qb, qo, rfl⟩ := hx.atI encEn_len (by decide) hi
      refine HW_skip rfl ?_
      refine gn_sq ?_
      refine HW_seq rfl ?_
      refine HW_block rfl ?_
      refine HW_seq rfl ?_
      refine HW_text (.pure 0 (.pure 1 (.act 2 (.act 3 .done)))) (by kernel_rfl) ?_
      refine rw_p rfl rfl (y_index rfl rfl sl26 rfl (by omega) (by omega)) ?_
      refine rw_p rfl rfl (y_elA rfl ag43 (hx.ext0 hm.to).nt encEn_len hi) ?_
      refine a_alloc rfl rfl z43 hm trivial fun m1 w hg_m1 hm hh => ?_
      refine a_store rfl rfl rfl rfl sz43 rfl hm 0 rfl rfl fun w hm => ?_
      refine rw_done ?_
      refine gn_sq ?_
      refine HW_seq rfl ?_
      refine HW_text (.pure 0 (.pure 1 (.pure 2 (.pure 3 .done)))) (by kernel_rfl) ?_
      refine rw_p rfl rfl (y_fieldAddr rfl fo43_2) ?_
      refine rw_p rfl rfl (y_load rfl sc22 (hm.nt 0 rfl) rfl) ?_
      refine rw_p rfl rfl (y_len rfl rfl sl22) ?_
      refine rw_p rfl rfl (y_gt rfl rfl) ?_
      refine rw_done ?_
      refine gn_sq ?_
      refine HW_cond rfl rfl (fun hc2 => ?_) (fun hc2 => ?_)
      ·
        simp only [decide_eq_true_eq] at hc2
        refine HW_seq rfl ?_
        refine HW_text (.pure 0 .done) (by kernel_rfl) ?_
        refine rw_p rfl rfl (y_assign rfl) ?_
        refine rw_done ?_
        refine gn_sq ?_
        refine HW_ret rfl ?_
        refine gr_bl (gr_sq (gr_lp (gr_bl (gr_sq ?_))))
        refine toR (fin hret rfl (.tmp rfl .nil) .one ?_)
        have hF : fewB xs = false := by
          unfold fewB
          rw [Bool.and_eq_false_iff]
          exact .inr (List.all_eq_false.2 ⟨e, List.mem_of_getElem? hi, by simp only [decide_eq_true_eq]; omega⟩)
        exact ⟨by rw [hF], hm.to⟩
      ·
        simp only [decide_eq_false_iff_not] at hc2
        refine HW_skip rfl ?_
        refine gn_bl ?_
        refine gn_sq ?_
        refine HW_text (.pure 0 (.pure 1 .done)) (by kernel_rfl) ?_
        refine rw_p rfl rfl (y_add rfl rfl (i64w (by omega) (by omega))) ?_
        refine rw_p rfl rfl (y_move rfl) ?_
        refine rw_done ?_
        refine next (k + 1) (by omega) ⟨hm.drop (List.nil_sublist _), by omega, fun y hy => ?_⟩ ⟨nx k, rfl, rfl, trivial⟩
        simp only [List.take_add_one, hi, Option.toList] at hy
        rcases List.mem_append.1 hy with h9 | h9
        · exact h200 y h9
        · rw [List.mem_singleton.1 h9]; omega
    ·
      simp only [decide_eq_false_iff_not] at hc1
      have hke : k = xs.length := by omega
      rw [hke, List.take_length] at h200
      refine HW_exit rfl ?_
      refine gx_sq (gx_lp ?_)
      refine gx_here ?_
      refine gn_sq ?_
      refine HW_seq rfl ?_
      refine HW_text (.pure 0 .done) (by kernel_rfl) ?_
      refine rw_p rfl rfl (y_assign rfl) ?_
      refine rw_done ?_
      refine gn_sq ?_
      refine HW_ret rfl ?_
      refine toR (fin hret rfl (.tmp rfl .nil) .one ?_)
      have hT : fewB xs = true := by
        unfold fewB
        rw [Bool.and_eq_true, List.all_eq_true]
        exact ⟨decide_eq_true (by omega), fun y hy => decide_eq_true (h200 y hy)⟩
      exact ⟨by rw [hT], hm.to⟩

set_option maxHeartbeats 6400000 in
theorem law_plays (u1 u2 : Int) (pb : Option Addr) (cb : Nat) (bs : List UInt8) (f b k : Int) (q : Option Addr) (cq : Nat) (xs : List EnV) (w0 : World) (hbk : SB.ok w0 ⟨pb, cb, bs⟩) (hu1 : Pl.I64 u1) (hu2 : Pl.I64 u2) (hf : Pl.I64 f) (hb : Pl.I64 b) (hk : 0 ≤ k ∧ k ≤ 18446744073709551615) (hq : Rd w0 q (xs.flatMap encEn)) (hxs : ∀ x ∈ xs, okEn w0 x) (hlq : xs.length ≤ cq) (hcq : cq ≤ 9223372036854775807) : C Tryz.prog 3 [.agg ⟨[.int .i64 u1, .int .i64 u2, .slice pb bs.length cb, .int .i64 f, .int .i64 b, .int .u64 k]⟩, .slice q xs.length cq] w0 fun v w' => v = .bool true ∧ Ext No w0 w' := by
  simp only [Pl.I64] at hu1 hu2
  have hbl := hbk.le
  have hbm := hbk.max
  simp only at hbl hbm
  refine C_of Tryz.func3 rfl rfl rfl fun κ hret hnorm => ?_
  have hm := Mem.start w0
  refine HW_seq rfl ?_
  refine HW_text (.act 0 (.pure 1 .done)) (by kernel_rfl) ?_
  refine a_box rfl rfl rfl rfl hm trivial fun m1 w hg_m1 hm hh => ?_
  refine rw_p rfl rfl (y_assign rfl) ?_
  refine rw_done ?_
  refine gn_sq ?_
  refine HW_seq rfl ?_
  by_cases hmk : Pl.right u1 u2 bs.length = true ∧ u1 * u2 ≤ 2000
  ·
    obtain ⟨hrt, h2k⟩ := hmk
    obtain ⟨h1, h2, h3, h4⟩ := Pl.right_of hrt
    obtain ⟨a, rfl⟩ : ∃ a : Nat, u1 = a := ⟨u1.toNat, by omega⟩
    obtain ⟨c, rfl⟩ : ∃ c : Nat, u2 = c := ⟨u2.toNat, by omega⟩
    have hac : (a : Int) * (c : Int) = ((c * a : Nat) : Int) := by rw [Nat.mul_comm]; norm_cast
    rw [hac] at h2k h3 h4
    have hca : 1 ≤ c * a := Nat.mul_pos (by omega) (by omega)
    have ha9 : a ≤ c * a := Nat.le_mul_of_pos_left _ (by omega)
    have hc9 : c ≤ c * a := Nat.le_mul_of_pos_right _ (by omega)
    clear h1 h2
    refine HW_text (.pure 0 (.act 1 (.pure 2 (.pure 3 (.pure 4 (.pure 5 (.pure 6 .done))))))) (by kernel_rfl) ?_
    refine rw_p rfl rfl (y_loadA (s := 6) (vs := [_, _, _, _, _, _]) rfl ag25 (hm.nt 0 rfl) rfl) ?_
    refine a_call rfl rfl rfl go4 (dv_ok a c pb cb bs f b k _ (hbk.ext hm.to) hrt (by omega)) fun v w hR => ?_
    obtain ⟨m, mr, Zw, Zr, rfl, hz, hy, hmc⟩ := hR
    refine ⟨trivial, ?_⟩
    replace hm := hm.callTZ hmc
    refine rw_p rfl rfl (y_move rfl) ?_
    refine rw_p rfl rfl (y_extract rfl rfl) ?_
    refine rw_p rfl rfl (y_extract rfl rfl) ?_
    refine rw_p rfl rfl (y_assign rfl) ?_
    refine rw_p rfl rfl (y_assign rfl) ?_
    refine rw_done ?_
    refine gn_sq ?_
    refine HW_seq rfl ?_
    refine HW_seq rfl ?_
    cases hfw : fewB xs
    ·
      refine HW_text (.pure 0 (.pure 1 (.pure 2 (.pure 3 (.act 4 (.pure 5 (.pure 6 .done))))))) (by kernel_rfl) ?_
      refine rw_p rfl rfl (y_move rfl) ?_
      refine rw_p rfl rfl (y_pnil rfl rfl pb28) ?_
      refine rw_p rfl rfl (y_move rfl) ?_
      refine rw_p rfl rfl (y_move rfl) ?_
      refine a_call rfl rfl rfl go5 (C.as (v := .bool false) (law_few q cq xs _ (hq.ext0 hm.to) (by omega)) (congrArg Value.bool hfw)) fun v w hR => ?_
      obtain ⟨rfl, hE⟩ := hR
      refine ⟨trivial, ?_⟩
      replace hm := hm.ext hE
      refine rw_p rfl rfl (y_not rfl) ?_
      refine rw_p rfl rfl (y_pickF rfl rfl) ?_
      refine rw_done ?_
      refine gn_sq ?_
      refine HW_condT rfl rfl rfl ?_
      refine HW_seq rfl ?_
      refine HW_text (.act 0 (.pure 1 .done)) (by kernel_rfl) ?_
      refine a_call rfl rfl rfl go6 (law_alive _) fun v w hR => ?_
      obtain ⟨rfl, hE⟩ := hR
      refine ⟨trivial, ?_⟩
      replace hm := hm.ext hE
      refine rw_p rfl rfl (y_assign rfl) ?_
      refine rw_done ?_
      refine gn_sq ?_
      refine HW_ret rfl ?_
      refine gr_sq ?_
      refine toR (fin hret rfl (.tmp rfl .nil) .one ?_)
      exact ⟨rfl, hm.to⟩
    ·
      refine HW_text (.pure 0 (.pure 1 (.pure 2 (.pure 3 (.act 4 (.pure 5 (.pure 6 .done))))))) (by kernel_rfl) ?_
      refine rw_p rfl rfl (y_move rfl) ?_
      refine rw_p rfl rfl (y_pnil rfl rfl pb28) ?_
      refine rw_p rfl rfl (y_move rfl) ?_
      refine rw_p rfl rfl (y_move rfl) ?_
      refine a_call rfl rfl rfl go5 (C.as (v := .bool true) (law_few q cq xs _ (hq.ext0 hm.to) (by omega)) (congrArg Value.bool hfw)) fun v w hR => ?_
      obtain ⟨rfl, hE⟩ := hR
      refine ⟨trivial, ?_⟩
      replace hm := hm.ext hE
      refine rw_p rfl rfl (y_not rfl) ?_
      refine rw_p rfl rfl (y_pickF rfl rfl) ?_
      refine rw_done ?_
      refine gn_sq ?_
      refine HW_condF rfl rfl rfl ?_
      refine HW_skip rfl ?_
      refine gn_sq ?_
      refine HW_seq rfl ?_
      by_cases hck : Pl.jcheck (Pl.nDv a c bs) f b = 0
      ·
        obtain ⟨F, N, rfl, hN, h0, h2⟩ := Pl.jcheck_ok hck
        replace hN : Pl.slot (a : Int) b = (N : Int) := hN
        replace h2 : F + 2 * N ≤ c := h2
        have hok0 : Pl.okDv (Pl.nDv a c bs) := hz.ok
        have hfit := Pl.slot_fit hN h0
        have hfw9 := hfw
        unfold fewB at hfw9
        simp only [Bool.and_eq_true, decide_eq_true_eq, List.all_eq_true] at hfw9
        have hJU := JU_open (D := (Pl.nDv a c bs)) hok0 rfl (show (-1 : Int) < 0 by decide) rfl F N k
        refine HW_text (.pure 0 (.pure 1 (.pure 2 (.pure 3 (.pure 4 (.pure 5 (.pure 6 (.act 7 (.pure 8 (.pure 9 (.pure 10 (.pure 11 (.pure 12 .done))))))))))))) (by kernel_rfl) ?_
        refine rw_p rfl rfl (y_move rfl) ?_
        refine rw_p rfl rfl (y_fieldAddr rfl fo25_3) ?_
        refine rw_p rfl rfl (y_load rfl sc3 (hm.nt 0 rfl) rfl) ?_
        refine rw_p rfl rfl (y_fieldAddr rfl fo25_4) ?_
        refine rw_p rfl rfl (y_load rfl sc3 (hm.nt 0 rfl) rfl) ?_
        refine rw_p rfl rfl (y_fieldAddr rfl fo25_5) ?_
        refine rw_p rfl rfl (y_load rfl sc23 (hm.nt 0 rfl) rfl) ?_
        refine a_call rfl rfl rfl go7 (j_open (Pl.nDv a c bs) m Zw _ (OwnZ.mid (A := [_]) hm.ownZ) hz F N b hb hN h0 h2 k rfl) fun v w hR => ?_
        obtain ⟨j, Zj, rfl, hj, hmc⟩ := hR
        refine ⟨trivial, ?_⟩
        obtain ⟨p_x, c_x, g_x, b_x, rfl, ha_x⟩ := hj
        replace hm := hm.callN hmc
        obtain ⟨S, hS⟩ : ∃ S, Pl.jopen (Pl.nDv a c bs) F N k = S := ⟨_, rfl⟩
        rw [hS] at hm ha_x hJU
        refine rw_p rfl rfl (y_move rfl) ?_
        refine rw_p rfl rfl (y_extract rfl rfl) ?_
        refine rw_p rfl rfl (y_extract rfl rfl) ?_
        refine rw_p rfl rfl (y_assign rfl) ?_
        refine rw_p rfl rfl (y_assign rfl) ?_
        refine rw_done ?_
        refine gn_sq ?_
        refine HW_seq rfl ?_
        refine HW_seq rfl ?_
        refine HW_text (.pure 0 (.pure 1 (.pure 2 (.pure 3 (.pure 4 (.act 5 (.pure 6 .done))))))) (by kernel_rfl) ?_
        refine rw_p rfl rfl (y_move rfl) ?_
        refine rw_p rfl rfl (y_fieldAddr rfl fo25_3) ?_
        refine rw_p rfl rfl (y_load rfl sc3 (hm.nt 2 rfl) rfl) ?_
        refine rw_p rfl rfl (y_fieldAddr rfl fo25_4) ?_
        refine rw_p rfl rfl (y_load rfl sc3 (hm.nt 2 rfl) rfl) ?_
        refine a_call rfl rfl rfl go8 (C.as (v := .int .i64 0) (r22_check (Pl.nDv a c bs) mr Zr _ (OwnZ.end (A := [_, _, _]) hm.ownZ) hy (F : Int) b hf hb) (by rw [hck])) fun v w hR => ?_
        obtain ⟨rfl, hE⟩ := hR
        refine ⟨trivial, ?_⟩
        replace hm := hm.ext hE
        refine rw_p rfl rfl (y_assign rfl) ?_
        refine rw_done ?_
        refine gn_sq ?_
        refine HW_seq rfl ?_
        refine HW_text (.pure 0 (.pure 1 .done)) (by kernel_rfl) ?_
        refine rw_p rfl rfl (y_move rfl) ?_
        refine rw_p rfl rfl (y_as (c := false) (y_ne rfl rfl) (by decide)) ?_
        refine rw_done ?_
        refine gn_sq ?_
        refine HW_condF rfl rfl rfl ?_
        refine HW_skip rfl ?_
        refine gn_sq ?_
        refine HW_seq rfl ?_
        refine HW_text (.pure 0 (.pure 1 (.pure 2 (.pure 3 (.pure 4 (.pure 5 (.pure 6 (.act 7 (.pure 8 (.pure 9 (.pure 10 (.pure 11 (.pure 12 .done))))))))))))) (by kernel_rfl) ?_
        refine rw_p rfl rfl (y_move rfl) ?_
        refine rw_p rfl rfl (y_fieldAddr rfl fo25_3) ?_
        refine rw_p rfl rfl (y_load rfl sc3 (hm.nt 2 rfl) rfl) ?_
        refine rw_p rfl rfl (y_fieldAddr rfl fo25_4) ?_
        refine rw_p rfl rfl (y_load rfl sc3 (hm.nt 2 rfl) rfl) ?_
        refine rw_p rfl rfl (y_fieldAddr rfl fo25_5) ?_
        refine rw_p rfl rfl (y_load rfl sc23 (hm.nt 2 rfl) rfl) ?_
        refine a_call rfl rfl rfl go9 (r22_open (Pl.nDv a c bs) mr Zr _ (OwnZ.end (A := [_, _, _]) hm.ownZ) hy F N b hb hN h0 h2 k rfl (Nat.zero_le _)) fun v w hR => ?_
        obtain ⟨jr, pr, cr, BB, rfl, hmc, hRX⟩ := hR
        refine ⟨trivial, ?_⟩
        replace hm := (hm.callN hmc).perm (bagR (A := [_, _, _]) (Zw := Zw) (Zr := Zr))
        rw [hS] at hm hRX
        refine rw_p rfl rfl (y_move rfl) ?_
        refine rw_p rfl rfl (y_extract rfl rfl) ?_
        refine rw_p rfl rfl (y_extract rfl rfl) ?_
        refine rw_p rfl rfl (y_assign rfl) ?_
        refine rw_p rfl rfl (y_assign rfl) ?_
        refine rw_done ?_
        refine gn_sq ?_
        refine HW_seq rfl ?_
        refine HW_seq rfl ?_
        refine HW_text (.pure 0 (.pure 1 (.pure 2 (.pure 3 (.pure 4 (.act 5 (.pure 6 (.pure 7 .done)))))))) (by kernel_rfl) ?_
        refine rw_p rfl rfl (y_move rfl) ?_
        refine rw_p rfl rfl (y_as (c := false) (y_ne rfl rfl) (by decide)) ?_
        refine rw_p rfl rfl (y_move rfl) ?_
        refine rw_p rfl rfl (y_move rfl) ?_
        refine rw_p rfl rfl (y_move rfl) ?_
        refine a_call rfl rfl rfl go10 (C.as (v := .bool true) (law_same (Pl.nDv a c bs) m mr Zw Zr F N b k S j jr _ pr cr _ (OwnZ.mid (A := [_, _, _]) hm.ownZ) hz (OwnZ.left (OwnZ.tail (OwnZ.end (A := [_, _, _]) hm.ownZ))) hy hb hN h0 h2 ((hm.pick [0, 1] rfl)).ownZ ⟨p_x, c_x, g_x, b_x, rfl, ha_x⟩ (OwnZ.get (k := 0) (OwnZ.end (A := [_, _, _]) hm.ownZ) rfl) (rdP (.inr hRX) hm (fun e9 he9 => by simp [he9])) hJU.la0 (Nat.le_trans hJU.len (by decide))) (congrArg Value.bool rfl)) fun v w hR => ?_
        obtain ⟨rfl, hE⟩ := hR
        refine ⟨trivial, ?_⟩
        replace hm := hm.ext hE
        refine rw_p rfl rfl (y_not rfl) ?_
        refine rw_p rfl rfl (y_pickF rfl rfl) ?_
        refine rw_done ?_
        refine gn_sq ?_
        refine HW_condF rfl rfl rfl ?_
        refine HW_skip rfl ?_
        refine gn_sq ?_
        refine HW_seq rfl ?_
        refine HW_seq rfl ?_
        refine HW_text (.pure 0 (.pure 1 (.pure 2 .done))) (by kernel_rfl) ?_
        refine rw_p rfl rfl (y_move rfl) ?_
        refine rw_p rfl rfl (y_len rfl rfl sl26) ?_
        refine rw_p rfl rfl (y_move rfl) ?_
        refine rw_done ?_
        refine gn_sq ?_
        refine HW_block rfl ?_
        refine HW_loopK (ι := PyS) rfl (ks := [2, 5, 6, 7, 10, 79, 80]) (.cons rfl (.cons rfl (.cons rfl (.cons rfl (.cons rfl (.cons rfl (.cons rfl .nil))))))) (fun x => [(81, .int .i64 x.i)]) (fun x w => Mem w0 w No ((m1, .row 25 [.int .i64 (a : Int), .int .i64 (c : Int), .slice pb bs.length cb, .int .i64 (F : Int), .int .i64 b, .int .u64 k]) :: (j, .row 68 (jrow (.pointer (some ⟨m, 0, none⟩)) (F : Int) b k x.S x.jp x.jc)) :: (x.jg, x.jb) :: (x.Zw ++ ((jr, .row 80 (rjrow (.pointer (some ⟨mr, 0, none⟩)) (F : Int) b k x.S x.pr x.cr)) :: (x.Zr ++ x.BB)))) ∧ Acc 5 1 x.jp x.S.la.bs.length x.jc (x.S.la.bs.flatMap encB) x.jg x.jb ∧ DevZ 107 157 5 x.D m x.Zw ∧ RefZ 50 172 5 x.D mr x.Zr ∧ (Rd w0 x.pr (x.S.la.bs.flatMap encB) ∨ RdX x.BB 5 x.pr x.cr x.S.la.bs) ∧ JU a c x.D x.S ∧ x.i ≤ xs.length) (fun x => xs.length - x.i) ⟨0, (Pl.nDv a c bs), S, Zw, Zr, BB, p_x, c_x, g_x, b_x, pr, cr⟩ (⟨(hm.pickT [2, 0, 1] 3 rfl), ha_x, hz, hy, .inr hRX, hJU, Nat.zero_le _⟩) ⟨rfl, trivial⟩ (fun x w hM => ?_)
        clear hJU hS hRX
        obtain ⟨i, D, S, Zw, Zr, BB, p_x, c_x, g_x, b_x, pr, cr⟩ := x
        obtain ⟨hm, ha_x, hz, hy, hRD, hJU, hk9⟩ := hM
        simp only at hm ha_x hz hy hRD hJU hk9 ⊢
        have hND : Pl.slot (D.sz : Int) b = (N : Int) := by rw [hJU.hsz]; exact hN
        have h2D : F + 2 * N ≤ D.cnt := by rw [hJU.hcnt]; exact h2
        refine HW_seq rfl ?_
        refine HW_text (.pure 0 .done) (by kernel_rfl) ?_
        refine rw_p rfl rfl (y_lt rfl rfl) ?_
        refine rw_done ?_
        refine gn_sq ?_
        refine HW_seq rfl ?_
        refine HW_cond rfl rfl (fun hc3 => ?_) (fun hc3 => ?_)
        ·
          simp only [decide_eq_true_eq] at hc3
          obtain ⟨e, hi⟩ : ∃ y_, xs[i]? = some y_ := ⟨_, List.getElem?_eq_getElem (by omega)⟩
          have he := hxs e (List.mem_of_getElem? hi)
          have hel := hfw9.2 e (List.mem_of_getElem? hi)
          obtain ⟨qb, qo, rfl⟩ := hq.atI encEn_len (by decide) hi
          have hJU2 := JU_step (r := (Pl.jmk S k e.cu e.of e.d.bs)) hJU h2 (show b + 44 ≤ (N : Int) * (a : Int) from hfit.2.2.2.1) hel
          refine HW_skip rfl ?_
          refine gn_sq ?_
          refine HW_seq rfl ?_
          refine HW_block rfl ?_
          refine HW_seq rfl ?_
          refine HW_text (.pure 0 (.pure 1 (.act 2 (.act 3 .done)))) (by kernel_rfl) ?_
          refine rw_p rfl rfl (y_index rfl rfl sl26 rfl (by omega) (by omega)) ?_
          refine rw_p rfl rfl (y_elA rfl ag43 (hq.ext0 hm.to).nt encEn_len hi) ?_
          refine a_alloc rfl rfl z43 hm trivial fun m2 w hg_m2 hm hh => ?_
          refine a_store rfl rfl rfl rfl sz43 rfl hm 0 rfl rfl fun w hm => ?_
          refine rw_done ?_
          refine gn_sq ?_
          refine HW_seq rfl ?_
          refine HW_draw (.pure 0 (.pure 1 (.pure 2 (.pure 3 (.pure 4 (.pure 5 (.pure 6 (.pure 9 (.pure 10 (.pure 11 (.pure 12 (.pure 13 (.pure 14 (.pure 15 (.act 7 (.act 8 (.acto 16 (.pure 17 (.pure 18 (.pure 19 (.pure 20 (.act 21 (.pure 22 (.pure 23 (.pure 24 (.pure 25 (.pure 27 (.pure 28 (.pure 29 (.pure 30 (.act 26 (.cut (.act 31 (.pure 32 (.pure 33 .done))))))))))))))))))))))))))))))))))) (Mn (reals ((j, Blk.row 68 (jrow (.pointer (some ⟨m, 0, none⟩)) (F : Int) b k S p_x c_x)) :: (g_x, b_x) :: (Zw ++ ((jr, Blk.row 80 (rjrow (.pointer (some ⟨mr, 0, none⟩)) (F : Int) b k S pr cr)) :: (Zr ++ BB)))))) mix (by kernel_rfl) hm fun w hw hm0 hh => ?_
          have hm := hm0
          refine rw_p rfl rfl (y_move rfl) ?_
          refine rw_p rfl rfl (y_fieldAddr rfl fo43_0) ?_
          refine rw_p rfl rfl (y_load rfl sc3 (hm0.nd 0 rfl (Mem.notT (A := [_, _]) hm0 (k := 0) rfl)) rfl) ?_
          refine rw_p rfl rfl (y_fieldAddr rfl fo43_1) ?_
          refine rw_p rfl rfl (y_load rfl sc3 (hm0.nd 0 rfl (Mem.notT (A := [_, _]) hm0 (k := 0) rfl)) rfl) ?_
          refine rw_p rfl rfl (y_fieldAddr rfl fo43_2) ?_
          refine rw_p rfl rfl (y_load rfl sc22 (hm0.nd 0 rfl (Mem.notT (A := [_, _]) hm0 (k := 0) rfl)) rfl) ?_
          refine rw_p rfl rfl (y_move rfl) ?_
          refine rw_p rfl rfl (y_fieldAddr rfl fo43_0) ?_
          refine rw_p rfl rfl (y_load rfl sc3 (hm0.nd 0 rfl (Mem.notT (A := [_, _]) hm0 (k := 0) rfl)) rfl) ?_
          refine rw_p rfl rfl (y_fieldAddr rfl fo43_1) ?_
          refine rw_p rfl rfl (y_load rfl sc3 (hm0.nd 0 rfl (Mem.notT (A := [_, _]) hm0 (k := 0) rfl)) rfl) ?_
          refine rw_p rfl rfl (y_fieldAddr rfl fo43_2) ?_
          refine rw_p rfl rfl (y_load rfl sc22 (hm0.nd 0 rfl (Mem.notT (A := [_, _]) hm0 (k := 0) rfl)) rfl) ?_
          refine a_buildSlice (l := [_]) rfl rfl sl89 z22 rfl rfl rfl rfl rfl rfl rfl hm hh fun m3 w hg_m3 hm hh => ?_
          refine a_call rfl rfl rfl go11 (j_append D m Zw S j _ F N b k e.cu e.of _ 1 [e.d] e.d.bs _ (OwnZ.mid (A := [_, _, _]) (Z1 := _ :: _ :: Zw) (Z2 := _ :: (Zr ++ BB)) hm.ownZ) hz ⟨p_x, c_x, g_x, b_x, rfl, ha_x⟩ hb hND h0 h2D hJU.nx hk he.1 he.2.1 (Rd.row0 (hm.get (k := 0) rfl)) (fun s hs => by rw [List.mem_singleton.1 hs]; exact he.2.2.rd.ext0 hm.to) (by simp) (by simp) (by omega) (by rw [hJU.ca, hJU.hcnt]; show 0 + c ≤ 1000000000; omega)) fun v w hR => ?_
          obtain ⟨rfl, Zj, Zw2, hj, hz2, hmc⟩ := hR
          refine ⟨hh.turn hmc.to (fun k9 h9 => Mn_left (A := _ :: _ :: Zw) (B := _ :: (Zr ++ BB)) h9), ?_⟩
          replace hh := hh.turn hmc.to (fun k9 h9 => Mn_left (A := _ :: _ :: Zw) (B := _ :: (Zr ++ BB)) h9)
          obtain ⟨p_x, c_x, g_x, b_x, rfl, ha_x⟩ := hj
          replace hm := Mem.callM (A := [_, _, _]) (Z := _ :: _ :: Zw) (L := _ :: (Zr ++ BB)) hm hmc
          obtain ⟨R9, hR9⟩ : ∃ x, Pl.japp D F N b S (Pl.jmk S k e.cu e.of e.d.bs) = x := ⟨_, rfl⟩
          rw [hR9] at hm ha_x hz2 hJU2 ⊢
          obtain ⟨e9, D2, S2⟩ := R9
          simp only at hm ha_x hz2 hJU2 ⊢
          refine a_acto ?_
          refine a_call rfl rfl rfl go12 (r22_append D mr Zr S jr pr cr F N b k e.cu e.of e.d.p e.d.cap e.d.bs _ (OwnZ.left (A := _ :: Zr) (OwnZ.end (A := [_, _, _, _, _]) hm.ownZ)) hy hb hND h0 h2D hJU.nx hk he.1 he.2.1 (he.2.2.rd.ext0 hm.to) (by omega) (by rw [hJU.ca, hJU.hcnt]; show 0 + c ≤ 1000000000; omega)) fun v w hR => ?_
          obtain ⟨rfl, Zr2, pr2, cr2, hy2, hmc, hpr2⟩ := hR
          refine ⟨trivial, ?_⟩
          replace hm := Mem.callM (A := [_, _, _, _, _] ++ Zw2) (Z := _ :: Zr) (L := BB) hm hmc
          rw [hR9] at hy2 hpr2 hm ⊢
          simp only at hy2 hpr2 hm ⊢
          have hND2 : Pl.slot (D2.sz : Int) b = (N : Int) := by rw [hJU2.hsz]; exact hN
          have h2D2 : F + 2 * N ≤ D2.cnt := by rw [hJU2.hcnt]; exact h2
          have hDl2 : D2.dk.length ≤ 1048576 := by rw [hJU2.ok.len]; exact hJU2.ok.max
          have hRD2 : Rd w0 pr2 (S2.la.bs.flatMap encB) ∨ RdX BB 5 pr2 cr2 S2.la.bs := by
            rcases hpr2 with ⟨h7, h8, h9⟩ | ⟨h7, h8, h9⟩
            · rw [h7, h8, h9]; exact hRD
            · rw [h7, h9]; exact .inl he.2.2.rd
          refine a_opn No hm fun hm0 hh => ?_
          have hm := hm0
          obtain ⟨qB_, kB_, qC_, kC_, sC_, hPy, hd9, hp9, hw9⟩ := hy2.row (OwnZ.left (OwnZ.tail (OwnZ.end (A := [_, _, _, _, _]) hm.ownZ)))
          refine rw_p rfl rfl (y_as (c := false) (y_ne rfl rfl) (decide_eq_false (fun h => h rfl))) ?_
          refine rw_p rfl rfl (y_move rfl) ?_
          refine rw_p rfl rfl (y_move rfl) ?_
          refine rw_p rfl rfl (y_move rfl) ?_
          refine a_call rfl rfl rfl go10 (C.as (v := .bool true) (law_same D2 m mr Zw2 Zr2 F N b k S2 j jr _ pr2 cr2 _ (OwnZ.mid (A := [_, _, _, _, _]) hm.ownZ) hz2 (OwnZ.left (OwnZ.tail (OwnZ.end (A := [_, _, _, _, _]) hm.ownZ))) hy2 hb hND2 h0 h2D2 ((hm.pick [3, 4] rfl)).ownZ ⟨p_x, c_x, g_x, b_x, rfl, ha_x⟩ (OwnZ.get (k := 0) (OwnZ.end (A := [_, _, _, _, _]) hm.ownZ) rfl) (rdP hRD2 hm (fun e9 he9 => by simp [he9])) hJU2.la0 (Nat.le_trans hJU2.len (by decide))) (congrArg Value.bool rfl)) fun v w hR => ?_
          obtain ⟨rfl, hE⟩ := hR
          refine ⟨hh.ext hE, ?_⟩
          replace hm := hm.ext hE
          replace hh := hh.ext hE
          refine rw_p rfl rfl (y_not rfl) ?_
          refine rw_p rfl rfl (y_pickF rfl rfl) ?_
          refine rw_p rfl rfl (y_move rfl) ?_
          refine rw_p rfl rfl (y_move rfl) ?_
          refine rw_p rfl rfl (y_move rfl) ?_
          refine rw_p rfl rfl (y_nil rfl) ?_
          refine rw_p rfl rfl (y_fieldAddr rfl fo50_2) ?_
          refine rw_p rfl rfl (y_load rfl sc22 (fun u hu => (Ext.same hu _ (Array.getElem?_eq_some_iff.1 hPy).1 id).trans hPy) rfl) ?_
          refine a_call rfl rfl rfl go14 (o_disk D2 m Zw2 _ (OwnZ.mid (A := [_, _, _, _, _]) hm.ownZ) hz2) fun v w hR => ?_
          obtain ⟨p_s, cap_s, g_s, b_s, rfl, ha_s, hmc⟩ := hR
          refine ⟨hh.ext hmc.to, ?_⟩
          have hg_s : b_s.real = true → _ := fun hr => (hmc.fresh _ List.mem_cons_self hr).resolve_left id
          replace hh := hh.ext hmc.to
          replace hm := hm.callN hmc
          refine a_cut ?_
          refine a_call rfl rfl rfl go13 (C.as (v := .bool true) (eq_b p_s qB_ cap_s kB_ D2.dk D2.dk _ (ha_s.rd hm 0 rfl) (hd9.rd hm (fun e he => by simp [he])) (by omega) (by omega)) (congrArg Value.bool (decide_eq_true rfl))) fun v w hR => ?_
          obtain ⟨rfl, hE⟩ := hR
          refine ⟨trivial, ?_⟩
          replace hm := hm.ext hE
          refine rw_p rfl rfl (y_not rfl) ?_
          refine rw_p rfl rfl (y_pickF rfl rfl) ?_
          refine rw_done ?_
          refine gn_sq ?_
          refine HW_condF rfl rfl rfl ?_
          refine HW_skip rfl ?_
          refine gn_bl ?_
          refine gn_sq ?_
          refine HW_text (.pure 0 (.pure 1 .done)) (by kernel_rfl) ?_
          refine rw_p rfl rfl (y_add rfl rfl (i64w (by omega) (by omega))) ?_
          refine rw_p rfl rfl (y_move rfl) ?_
          refine rw_done ?_
          refine next ⟨i + 1, D2, S2, Zw2, Zr2, BB, p_x, c_x, g_x, b_x, pr2, cr2⟩ (by simp only; omega) ⟨(hm.pickT [3, 4, 5] 6 rfl), ha_x, hz2, hy2, hRD2, hJU2, by simp only; omega⟩ ⟨nx i, rfl, rfl, rfl, rfl, rfl, rfl, rfl, trivial⟩
        ·
          simp only [decide_eq_false_iff_not] at hc3
          refine HW_exit rfl ?_
          refine gx_sq (gx_lp ?_)
          refine gx_here ?_
          refine gn_sq ?_
          refine HW_seq rfl ?_
          refine HW_text (.pure 0 (.pure 1 (.pure 2 (.pure 3 (.pure 4 (.pure 5 (.pure 6 (.act 7 (.pure 8 (.pure 9 (.pure 10 (.pure 11 (.pure 12 .done))))))))))))) (by kernel_rfl) ?_
          refine rw_p rfl rfl (y_move rfl) ?_
          refine rw_p rfl rfl (y_fieldAddr rfl fo25_3) ?_
          refine rw_p rfl rfl (y_load rfl sc3 (hm.nt 0 rfl) rfl) ?_
          refine rw_p rfl rfl (y_fieldAddr rfl fo25_4) ?_
          refine rw_p rfl rfl (y_load rfl sc3 (hm.nt 0 rfl) rfl) ?_
          refine rw_p rfl rfl (y_fieldAddr rfl fo25_5) ?_
          refine rw_p rfl rfl (y_load rfl sc23 (hm.nt 0 rfl) rfl) ?_
          refine a_call rfl rfl rfl go7 (j_open D m Zw _ (OwnZ.mid (A := [_, _, _]) hm.ownZ) hz F N b hb hND h0 h2D k hJU.dn) fun v w hR => ?_
          obtain ⟨j2, Zj, rfl, hj, hmc⟩ := hR
          refine ⟨trivial, ?_⟩
          obtain ⟨p_y, c_y, g_y, b_y, rfl, ha_y⟩ := hj
          replace hm := hm.callN hmc
          have hJT := JU_open hJU.ok hJU.dn hJU.wr hJU.ca F N k
          obtain ⟨T, hT⟩ : ∃ T, Pl.jopen D F N k = T := ⟨_, rfl⟩
          rw [hT] at hm ha_y hJT
          refine rw_p rfl rfl (y_move rfl) ?_
          refine rw_p rfl rfl (y_extract rfl rfl) ?_
          refine rw_p rfl rfl (y_extract rfl rfl) ?_
          refine rw_p rfl rfl (y_assign rfl) ?_
          refine rw_p rfl rfl (y_assign rfl) ?_
          refine rw_done ?_
          refine gn_sq ?_
          refine HW_seq rfl ?_
          refine HW_text (.pure 0 (.pure 1 (.pure 2 (.pure 3 (.pure 4 (.pure 5 (.pure 6 (.act 7 (.pure 8 (.pure 9 (.pure 10 (.pure 11 (.pure 12 .done))))))))))))) (by kernel_rfl) ?_
          refine rw_p rfl rfl (y_move rfl) ?_
          refine rw_p rfl rfl (y_fieldAddr rfl fo25_3) ?_
          refine rw_p rfl rfl (y_load rfl sc3 (hm.nt 2 rfl) rfl) ?_
          refine rw_p rfl rfl (y_fieldAddr rfl fo25_4) ?_
          refine rw_p rfl rfl (y_load rfl sc3 (hm.nt 2 rfl) rfl) ?_
          refine rw_p rfl rfl (y_fieldAddr rfl fo25_5) ?_
          refine rw_p rfl rfl (y_load rfl sc23 (hm.nt 2 rfl) rfl) ?_
          refine a_call rfl rfl rfl go9 (r22_open D mr Zr _ (OwnZ.left (OwnZ.tail (OwnZ.end (A := [_, _, _, _, _]) hm.ownZ))) hy F N b hb hND h0 h2D k hJU.dn (by rw [hJU.ca]; decide)) fun v w hR => ?_
          obtain ⟨jr2, pr2, cr2, BB2, rfl, hmc, hRX2⟩ := hR
          refine ⟨trivial, ?_⟩
          replace hm := (hm.callN hmc).perm (bagR (A := [_, _, _, _, _]) (Zw := Zw) (Zr := _ :: (Zr ++ BB)))
          rw [hT] at hm hRX2
          refine rw_p rfl rfl (y_move rfl) ?_
          refine rw_p rfl rfl (y_extract rfl rfl) ?_
          refine rw_p rfl rfl (y_extract rfl rfl) ?_
          refine rw_p rfl rfl (y_assign rfl) ?_
          refine rw_p rfl rfl (y_assign rfl) ?_
          refine rw_done ?_
          refine gn_sq ?_
          refine HW_seq rfl ?_
          refine HW_text (.act 0 (.pure 1 (.pure 2 (.pure 3 (.pure 4 (.pure 5 (.pure 6 (.pure 7 (.act 8 (.pure 9 (.pure 10 .done))))))))))) (by kernel_rfl) ?_
          refine a_call rfl rfl rfl go6 (law_alive _) fun v w hR => ?_
          obtain ⟨rfl, hE⟩ := hR
          refine ⟨trivial, ?_⟩
          replace hm := hm.ext hE
          refine rw_p rfl rfl (y_move rfl) ?_
          refine rw_p rfl rfl (y_move rfl) ?_
          refine rw_p rfl rfl (y_as (c := true) (y_eq rfl rfl) (by decide)) ?_
          refine rw_p rfl rfl (y_pickT rfl rfl) ?_
          refine rw_p rfl rfl (y_move rfl) ?_
          refine rw_p rfl rfl (y_move rfl) ?_
          refine rw_p rfl rfl (y_move rfl) ?_
          refine a_call rfl rfl rfl go10 (C.as (v := .bool true) (law_same D m mr Zw Zr F N b k T j2 jr2 _ pr2 cr2 _ (OwnZ.mid (A := [_, _, _, _, _]) hm.ownZ) hz (OwnZ.left (OwnZ.tail (OwnZ.left (A := _ :: (Zr ++ BB)) (OwnZ.tail (OwnZ.end (A := [_, _, _, _, _]) hm.ownZ))))) hy hb hND h0 h2D ((hm.pick [0, 1] rfl)).ownZ ⟨p_y, c_y, g_y, b_y, rfl, ha_y⟩ (OwnZ.get (k := 0) (OwnZ.end (A := [_, _, _, _, _]) hm.ownZ) rfl) (rdP (.inr hRX2) hm (fun e9 he9 => by simp [he9])) hJT.la0 (Nat.le_trans hJT.len (by decide))) (congrArg Value.bool rfl)) fun v w hR => ?_
          obtain ⟨rfl, hE⟩ := hR
          refine ⟨trivial, ?_⟩
          replace hm := hm.ext hE
          refine rw_p rfl rfl (y_pickT rfl rfl) ?_
          refine rw_p rfl rfl (y_assign rfl) ?_
          refine rw_done ?_
          refine gn_sq ?_
          refine HW_ret rfl ?_
          refine toR (fin hret rfl (.tmp rfl .nil) .one ?_)
          exact ⟨rfl, hm.to⟩
      ·
        refine HW_text (.pure 0 (.pure 1 (.pure 2 (.pure 3 (.pure 4 (.pure 5 (.pure 6 (.act 7 (.pure 8 (.pure 9 (.pure 10 (.pure 11 (.pure 12 .done))))))))))))) (by kernel_rfl) ?_
        refine rw_p rfl rfl (y_move rfl) ?_
        refine rw_p rfl rfl (y_fieldAddr rfl fo25_3) ?_
        refine rw_p rfl rfl (y_load rfl sc3 (hm.nt 0 rfl) rfl) ?_
        refine rw_p rfl rfl (y_fieldAddr rfl fo25_4) ?_
        refine rw_p rfl rfl (y_load rfl sc3 (hm.nt 0 rfl) rfl) ?_
        refine rw_p rfl rfl (y_fieldAddr rfl fo25_5) ?_
        refine rw_p rfl rfl (y_load rfl sc23 (hm.nt 0 rfl) rfl) ?_
        refine a_call rfl rfl rfl go7 (j_openE (Pl.nDv a c bs) m Zw _ (OwnZ.mid (A := [_]) hm.ownZ) hz f b k hf hb hck) fun v w hR => ?_
        obtain ⟨rfl, hE⟩ := hR
        refine ⟨trivial, ?_⟩
        replace hm := hm.ext hE
        refine rw_p rfl rfl (y_move rfl) ?_
        refine rw_p rfl rfl (y_extract rfl rfl) ?_
        refine rw_p rfl rfl (y_extract rfl rfl) ?_
        refine rw_p rfl rfl (y_assign rfl) ?_
        refine rw_p rfl rfl (y_assign rfl) ?_
        refine rw_done ?_
        refine gn_sq ?_
        refine HW_seq rfl ?_
        refine HW_seq rfl ?_
        refine HW_text (.pure 0 (.pure 1 (.pure 2 (.pure 3 (.pure 4 (.act 5 (.pure 6 .done))))))) (by kernel_rfl) ?_
        refine rw_p rfl rfl (y_move rfl) ?_
        refine rw_p rfl rfl (y_fieldAddr rfl fo25_3) ?_
        refine rw_p rfl rfl (y_load rfl sc3 (hm.nt 0 rfl) rfl) ?_
        refine rw_p rfl rfl (y_fieldAddr rfl fo25_4) ?_
        refine rw_p rfl rfl (y_load rfl sc3 (hm.nt 0 rfl) rfl) ?_
        refine a_call rfl rfl rfl go8 (r22_check (Pl.nDv a c bs) mr Zr _ (OwnZ.end (A := [_]) hm.ownZ) hy f b hf hb) fun v w hR => ?_
        obtain ⟨rfl, hE⟩ := hR
        refine ⟨trivial, ?_⟩
        replace hm := hm.ext hE
        refine rw_p rfl rfl (y_assign rfl) ?_
        refine rw_done ?_
        refine gn_sq ?_
        refine HW_seq rfl ?_
        refine HW_text (.pure 0 (.pure 1 .done)) (by kernel_rfl) ?_
        refine rw_p rfl rfl (y_move rfl) ?_
        refine rw_p rfl rfl (y_as (c := true) (y_ne rfl rfl) (decide_eq_true hck)) ?_
        refine rw_done ?_
        refine gn_sq ?_
        refine HW_condT rfl rfl rfl ?_
        refine HW_seq rfl ?_
        refine HW_text (.act 0 (.pure 1 (.pure 2 (.pure 3 (.pure 4 (.pure 5 (.pure 6 (.pure 7 (.pure 8 (.pure 9 (.pure 10 .done))))))))))) (by kernel_rfl) ?_
        refine a_call rfl rfl rfl go6 (law_alive _) fun v w hR => ?_
        obtain ⟨rfl, hE⟩ := hR
        refine ⟨trivial, ?_⟩
        replace hm := hm.ext hE
        refine rw_p rfl rfl (y_move rfl) ?_
        refine rw_p rfl rfl (y_move rfl) ?_
        refine rw_p rfl rfl (y_pnil rfl rfl pb33) ?_
        refine rw_p rfl rfl (y_pickT rfl rfl) ?_
        refine rw_p rfl rfl (y_move rfl) ?_
        refine rw_p rfl rfl (y_move rfl) ?_
        refine rw_p rfl rfl (y_move rfl) ?_
        refine rw_p rfl rfl (y_as (c := true) (y_eq rfl rfl) (by simp)) ?_
        refine rw_p rfl rfl (y_pickT rfl rfl) ?_
        refine rw_p rfl rfl (y_assign rfl) ?_
        refine rw_done ?_
        refine gn_sq ?_
        refine HW_ret rfl ?_
        refine gr_sq ?_
        refine toR (fin hret rfl (.tmp rfl .nil) .one ?_)
        exact ⟨rfl, hm.to⟩
  ·
    refine HW_text (.pure 0 (.act 1 (.pure 2 (.pure 3 (.pure 4 (.pure 5 (.pure 6 .done))))))) (by kernel_rfl) ?_
    refine rw_p rfl rfl (y_loadA (s := 6) (vs := [_, _, _, _, _, _]) rfl ag25 (hm.nt 0 rfl) rfl) ?_
    refine a_call rfl rfl rfl go4 (dv_bad u1 u2 pb cb bs f b k _ (hbk.ext hm.to) hu1 hu2 hmk) fun v w hR => ?_
    obtain ⟨rfl, hE⟩ := hR
    refine ⟨trivial, ?_⟩
    replace hm := hm.ext hE
    refine rw_p rfl rfl (y_move rfl) ?_
    refine rw_p rfl rfl (y_extract rfl rfl) ?_
    refine rw_p rfl rfl (y_extract rfl rfl) ?_
    refine rw_p rfl rfl (y_assign rfl) ?_
    refine rw_p rfl rfl (y_assign rfl) ?_
    refine rw_done ?_
    refine gn_sq ?_
    refine HW_seq rfl ?_
    refine HW_seq rfl ?_
    cases hfw : fewB xs
    ·
      refine HW_text (.pure 0 (.pure 1 (.pure 2 (.pure 3 (.act 4 (.pure 5 (.pure 6 .done))))))) (by kernel_rfl) ?_
      refine rw_p rfl rfl (y_move rfl) ?_
      refine rw_p rfl rfl (y_pnil rfl rfl pb28) ?_
      refine rw_p rfl rfl (y_move rfl) ?_
      refine rw_gf rfl rfl (by decide) rfl ?_
      refine a_gf rfl rfl (by decide) rfl trivial ?_
      refine rw_gf rfl rfl (by decide) rfl ?_
      refine rw_p rfl rfl (y_pickT rfl rfl) ?_
      refine rw_done ?_
      refine gn_sq ?_
      refine HW_condT rfl rfl rfl ?_
      refine HW_seq rfl ?_
      refine HW_text (.act 0 (.pure 1 .done)) (by kernel_rfl) ?_
      refine a_call rfl rfl rfl go6 (law_alive _) fun v w hR => ?_
      obtain ⟨rfl, hE⟩ := hR
      refine ⟨trivial, ?_⟩
      replace hm := hm.ext hE
      refine rw_p rfl rfl (y_assign rfl) ?_
      refine rw_done ?_
      refine gn_sq ?_
      refine HW_ret rfl ?_
      refine gr_sq ?_
      refine toR (fin hret rfl (.tmp rfl .nil) .one ?_)
      exact ⟨rfl, hm.to⟩
    ·
      refine HW_text (.pure 0 (.pure 1 (.pure 2 (.pure 3 (.act 4 (.pure 5 (.pure 6 .done))))))) (by kernel_rfl) ?_
      refine rw_p rfl rfl (y_move rfl) ?_
      refine rw_p rfl rfl (y_pnil rfl rfl pb28) ?_
      refine rw_p rfl rfl (y_move rfl) ?_
      refine rw_gf rfl rfl (by decide) rfl ?_
      refine a_gf rfl rfl (by decide) rfl trivial ?_
      refine rw_gf rfl rfl (by decide) rfl ?_
      refine rw_p rfl rfl (y_pickT rfl rfl) ?_
      refine rw_done ?_
      refine gn_sq ?_
      refine HW_condT rfl rfl rfl ?_
      refine HW_seq rfl ?_
      refine HW_text (.act 0 (.pure 1 .done)) (by kernel_rfl) ?_
      refine a_call rfl rfl rfl go6 (law_alive _) fun v w hR => ?_
      obtain ⟨rfl, hE⟩ := hR
      refine ⟨trivial, ?_⟩
      replace hm := hm.ext hE
      refine rw_p rfl rfl (y_assign rfl) ?_
      refine rw_done ?_
      refine gn_sq ?_
      refine HW_ret rfl ?_
      refine gr_sq ?_
      refine toR (fin hret rfl (.tmp rfl .nil) .one ?_)
      exact ⟨rfl, hm.to⟩

end Go.Proofs.YthailbggeafckaaGreat
