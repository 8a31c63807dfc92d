/- Contracts of functions of the program: what each returns. Conditions: the hypotheses of each theorem. -/
import Derived.Test.YtaehgpeenaomcaaGreatRgtB
import Derived.Test.YtaehgpeenaomcaaGreatLay
import Derived.Test.YtaehgpeenaomcaaGreatEkT
set_option linter.unusedVariables false
set_option linter.unusedSimpArgs false
namespace Go.Proofs.YtaehgpeenaomcaaGreat
open Go Go.Cx

theorem ag28 : aggS Tryz.prog 28 = some 71 := by kernel_rfl
theorem go6 : isGo Tryz.prog 6 = true := by kernel_rfl
theorem go7 : isGo Tryz.prog 7 = true := by kernel_rfl
theorem go8 : isGo Tryz.prog 8 = true := by kernel_rfl
theorem go9 : isGo Tryz.prog 9 = true := by kernel_rfl

theorem rbF {b : Bool} (h : ¬ (bif b then (0 : Int) else 1) = 0) : b = false := by
  cases b
  · rfl
  · exact absurd rfl h
theorem slot_jb {sz bd : Int} (h1 : 1 ≤ sz) (h2 : 1 ≤ bd) (h3 : bd ≤ 300) : 2 * (bd + 44) ≤ 2 * Pl.slot sz bd * sz ∧ 2 * Pl.slot sz bd * sz < 2 * (bd + 44 + sz) := by
  have e : Pl.slot sz bd = (bd + 43) / sz + 1 := by unfold Pl.slot; rw [if_neg (by omega)]
  have a := Int.emod_add_mul_ediv (bd + 43) sz
  have b := Int.emod_nonneg (bd + 43) (show sz ≠ 0 by omega)
  have c := Int.emod_lt_of_pos (bd + 43) (show 0 < sz by omega)
  have d : 2 * Pl.slot sz bd * sz = 2 * (sz * ((bd + 43) / sz)) + 2 * sz := by
    rw [e, Int.mul_assoc, Int.add_mul, Int.one_mul, Int.mul_add, Int.mul_comm ((bd + 43) / sz) sz]
  rw [d]
  omega
theorem lay_ok {sz bd o n : Int} (h1 : 1 ≤ sz) (h2 : 1 ≤ bd) (h3 : bd ≤ 300) (h4 : 0 ≤ o ∧ o ≤ 300) (h5 : Pl.valid 0 n = true) : Pl.layE sz bd o n = 0 := by
  have a : Pl.slot sz bd ≠ 0 := by
    unfold Pl.slot
    rw [if_neg (by omega)]
    have := Pl.div_bnd (x := bd + 43) (s := sz) (by omega) h1
    omega
  have b : Pl.okLen o = true := Pl.okLen_iff.2 (by omega)
  unfold Pl.layE
  rw [if_neg a, if_neg (by rw [b, show Pl.okLen n = true from h5]; simp)]


set_option maxHeartbeats 1600000 in
theorem law_journal (oo nn : Int) (H : Nat → UInt8) (q : Option Addr) (cq : Nat) (cs : List CmdV) (r : Option Addr) (cr : Nat) (f : List UInt8) (sz bd mo : Int) (oy ny : Int) (HH : Nat → UInt8) (qy : Option Addr) (cqy : Nat) (cy : List CmdV) (ry : Option Addr) (cry : Nat) (fy : List UInt8) (szy bdy moy : Int) (w0 : World) (h1 : Pl.I64 oo) (h2 : Pl.I64 nn) (hs : Pl.I64 sz) (hb : Pl.I64 bd) (hq : Rd w0 q (cs.flatMap encC)) (hok : ∀ c ∈ cs, okC w0 c) (h3 : Pl.I64 oy) (h4 : Pl.I64 ny) (hs2 : Pl.I64 szy) (hb2 : Pl.I64 bdy) (hqy : Rd w0 qy (cy.flatMap encC)) (hoky : ∀ c ∈ cy, okC w0 c) (hgz : Go.Ev.GlobZ w0) : C Tryz.prog 3 [.agg ⟨caV r f.length cr oo nn H q cs.length cq sz bd mo⟩, .agg ⟨caV ry fy.length cry oy ny HH qy cy.length cqy szy bdy moy⟩] w0 fun v w' => v = .bool true ∧ Ext No w0 w' := by
  refine C_of Tryz.func3 rfl rfl rfl fun κ hret hnorm => ?_
  have hm := Mem.start w0
  refine HW_seq rfl ?_
  refine HW_text (.act 0 (.act 1 (.pure 2 .done))) (by kernel_rfl) ?_
  refine a_box rfl rfl rfl rfl hm trivial fun m1 w hg_m1 hm hh => ?_
  refine a_box rfl rfl rfl rfl hm trivial fun m2 w hg_m2 hm hh => ?_
  refine rw_p rfl rfl (y_assign rfl) ?_
  refine rw_done ?_
  refine gn_sq ?_
  refine HW_seq rfl ?_
  refine HW_seq rfl ?_
  refine HW_text (.pure 0 (.act 1 (.pure 2 (.pure 3 (.pure 4 (.act 5 (.pure 6 (.pure 7 .done)))))))) (by kernel_rfl) ?_
  refine rw_p rfl rfl (y_loadA (s := 71) (vs := caV r f.length cr oo nn H _ cs.length cq sz bd mo) rfl ag28 (hm.nt 1 rfl) rfl) ?_
  refine a_call rfl rfl rfl go6 (l24_right oo nn H q cq cs r cr f sz bd mo _ h1 h2 hs hb (hq.ext0 hm.to) (fun c hc => okC.mono (hok c hc) hm.to)) fun v w hR => ?_
  obtain ⟨rfl, hE⟩ := hR
  refine ⟨trivial, ?_⟩
  replace hm := hm.ext hE
  refine rw_p rfl rfl (y_eq rfl rfl) ?_
  refine rw_p rfl rfl (y_move rfl) ?_
  refine rw_g rfl rfl rfl (fun hc => (y_loadA (s := 71) (vs := caV ry fy.length cry oy ny HH _ cy.length cqy szy bdy moy) rfl ag28 (hm.nt 0 rfl) rfl)) ?_
  refine a_callG rfl rfl rfl (fun hc => (evs_c (gx hc rfl) evs_n)) go6 (fun hc => (l24_right oy ny HH qy cqy cy ry cry fy szy bdy moy _ h3 h4 hs2 hb2 (hqy.ext0 hm.to) (fun c hc => okC.mono (hoky c hc) hm.to))) trivial fun w hE hh => ?_
  replace hm := hm.ext hE
  refine rw_g rfl rfl rfl (fun hc => (y_eq (gx hc rfl) rfl)) ?_
  refine rw_p rfl rfl (y_or rfl rfl rfl) ?_
  refine rw_done ?_
  refine gn_sq ?_
  refine HW_cond rfl rfl (fun hc0 => ?_) (fun hc0 => ?_)
  ·
    refine HW_seq rfl ?_
    refine HW_text (.act 0 (.pure 1 .done)) (by kernel_rfl) ?_
    refine a_call rfl rfl rfl go7 (Go.Ev.runs_ok _ (hgz.to hm.to)) fun v w hR => ?_
    obtain ⟨rfl, hE⟩ := hR
    refine ⟨trivial, ?_⟩
    replace hm := hm.ext hE
    refine rw_p rfl rfl (y_assign rfl) ?_
    refine rw_done ?_
    refine gn_sq ?_
    refine HW_ret rfl ?_
    refine gr_sq ?_
    refine toR (fin hret rfl (.tmp rfl .nil) .one ?_)
    exact ⟨rfl, hm.to⟩
  ·
    simp only [Bool.or_eq_false_iff, decide_eq_false_iff_not] at hc0
    have hrx := rbf (rbF hc0.1)
    have hry := rbf (rbF hc0.2)
    have hsl := Pl.slot_bnd sz bd
    have hjb := slot_jb (sz := sz) (bd := bd) (by omega) (by omega) (by omega)
    have he1 : Pl.layE sz bd oo nn = 0 := lay_ok (by omega) (by omega) (by omega) (by omega) hrx.2.2.2.1
    have he2 : Pl.layE sz bd oy ny = 0 := lay_ok (by omega) (by omega) (by omega) (by omega) hry.2.2.2.1
    refine HW_skip rfl ?_
    refine gn_sq ?_
    refine HW_seq rfl ?_
    refine HW_text (.pure 0 (.pure 1 (.pure 2 (.pure 3 (.pure 4 (.pure 5 (.act 6 (.pure 7 (.pure 8 (.pure 9 (.act 10 (.act 11 (.pure 12 .done))))))))))))) (by kernel_rfl) ?_
    refine rw_p rfl rfl (y_fieldAddr rfl fo28_2) ?_
    refine rw_p rfl rfl (y_load rfl sc3 (hm.nt 1 rfl) rfl) ?_
    refine rw_p rfl rfl (y_fieldAddr rfl fo28_3) ?_
    refine rw_p rfl rfl (y_load rfl sc3 (hm.nt 1 rfl) rfl) ?_
    refine rw_p rfl rfl (y_fieldAddr rfl fo28_1) ?_
    refine rw_p rfl rfl (y_loadA (s := 67) (vs := dlV oo nn H _ cs.length cq) rfl ag26 (hm.nt 1 rfl) rfl) ?_
    refine a_call rfl rfl rfl go8 (C.as (v := .tuple ⟨[.agg ⟨[.int .i64 sz, .int .i64 bd, .int .i64 0, .int .i64 (max oo nn), .int .i64 (Pl.layF sz oo nn), .int .i64 (2 * Pl.slot sz bd), .int .i64 (Pl.layF sz oo nn + 2 * Pl.slot sz bd)]⟩, .int .i64 0]⟩) (y_of sz bd oo nn _ _ hs hb h1 h2) (by unfold layV; rw [he1]; rfl)) fun v w hR => ?_
    obtain ⟨rfl, hE⟩ := hR
    refine ⟨trivial, ?_⟩
    replace hm := hm.ext hE
    refine rw_p rfl rfl (y_move rfl) ?_
    refine rw_p rfl rfl (y_extract rfl rfl) ?_
    refine rw_p rfl rfl (y_extract rfl rfl) ?_
    refine a_alloc rfl rfl z34 hm trivial fun m3 w hg_m3 hm hh => ?_
    refine a_store rfl rfl rfl rfl sz34 rfl hm 0 rfl rfl fun w hm => ?_
    refine rw_p rfl rfl (y_assign rfl) ?_
    refine rw_done ?_
    refine gn_sq ?_
    refine HW_seq rfl ?_
    refine HW_text (.pure 0 (.pure 1 (.pure 2 (.pure 3 (.pure 4 (.pure 5 (.act 6 (.pure 7 (.pure 8 (.pure 9 (.act 10 (.act 11 (.pure 12 .done))))))))))))) (by kernel_rfl) ?_
    refine rw_p rfl rfl (y_fieldAddr rfl fo28_2) ?_
    refine rw_p rfl rfl (y_load rfl sc3 (hm.nt 2 rfl) rfl) ?_
    refine rw_p rfl rfl (y_fieldAddr rfl fo28_3) ?_
    refine rw_p rfl rfl (y_load rfl sc3 (hm.nt 2 rfl) rfl) ?_
    refine rw_p rfl rfl (y_fieldAddr rfl fo28_1) ?_
    refine rw_p rfl rfl (y_loadA (s := 67) (vs := dlV oy ny HH _ cy.length cqy) rfl ag26 (hm.nt 1 rfl) rfl) ?_
    refine a_call rfl rfl rfl go8 (C.as (v := .tuple ⟨[.agg ⟨[.int .i64 sz, .int .i64 bd, .int .i64 0, .int .i64 (max oy ny), .int .i64 (Pl.layF sz oy ny), .int .i64 (2 * Pl.slot sz bd), .int .i64 (Pl.layF sz oy ny + 2 * Pl.slot sz bd)]⟩, .int .i64 0]⟩) (y_of sz bd oy ny _ _ hs hb h3 h4) (by unfold layV; rw [he2]; rfl)) fun v w hR => ?_
    obtain ⟨rfl, hE⟩ := hR
    refine ⟨trivial, ?_⟩
    replace hm := hm.ext hE
    refine rw_p rfl rfl (y_move rfl) ?_
    refine rw_p rfl rfl (y_extract rfl rfl) ?_
    refine rw_p rfl rfl (y_extract rfl rfl) ?_
    refine a_alloc rfl rfl z34 hm trivial fun m4 w hg_m4 hm hh => ?_
    refine a_store rfl rfl rfl rfl sz34 rfl hm 0 rfl rfl fun w hm => ?_
    refine rw_p rfl rfl (y_assign rfl) ?_
    refine rw_done ?_
    refine gn_sq ?_
    refine HW_seq rfl ?_
    refine HW_text (.pure 0 (.pure 1 (.pure 2 (.pure 3 (.act 4 (.pure 5 .done)))))) (by kernel_rfl) ?_
    refine rw_p rfl rfl (y_fieldAddr rfl fo28_2) ?_
    refine rw_p rfl rfl (y_load rfl sc3 (hm.nt 3 rfl) rfl) ?_
    refine rw_p rfl rfl (y_fieldAddr rfl fo28_3) ?_
    refine rw_p rfl rfl (y_load rfl sc3 (hm.nt 3 rfl) rfl) ?_
    refine a_call rfl rfl rfl go9 (y_jb sz bd _ hs hb (by simp only [Pl.I64]; omega)) fun v w hR => ?_
    obtain ⟨rfl, hE⟩ := hR
    refine ⟨trivial, ?_⟩
    replace hm := hm.ext hE
    refine rw_p rfl rfl (y_assign rfl) ?_
    refine rw_done ?_
    refine gn_sq ?_
    refine HW_seq rfl ?_
    refine HW_text (.act 0 (.pure 1 (.pure 2 (.pure 3 (.pure 4 (.pure 5 (.pure 6 (.pure 7 (.pure 8 (.pure 9 (.pure 10 (.pure 11 (.pure 12 (.pure 13 (.pure 14 (.pure 15 (.pure 16 (.pure 17 (.pure 18 (.pure 19 (.pure 20 (.pure 21 (.pure 22 (.pure 23 (.pure 24 (.pure 25 (.pure 26 (.pure 27 (.pure 28 (.pure 29 (.pure 30 (.pure 31 (.pure 32 (.pure 33 (.pure 34 (.pure 35 (.pure 36 (.pure 37 (.pure 38 (.pure 39 (.pure 40 (.pure 41 (.pure 42 (.pure 43 (.pure 44 (.pure 45 (.pure 46 (.pure 47 .done)))))))))))))))))))))))))))))))))))))))))))))))) (by kernel_rfl) ?_
    refine a_call rfl rfl rfl go7 (Go.Ev.runs_ok _ (hgz.to hm.to)) fun v w hR => ?_
    obtain ⟨rfl, hE⟩ := hR
    refine ⟨trivial, ?_⟩
    replace hm := hm.ext hE
    refine rw_p rfl rfl (y_move rfl) ?_
    refine rw_p rfl rfl (y_move rfl) ?_
    refine rw_p rfl rfl (y_as (c := true) (y_eq rfl rfl) (by decide)) ?_
    refine rw_p rfl rfl (y_pickT rfl rfl) ?_
    refine rw_p rfl rfl (y_move rfl) ?_
    refine rw_p rfl rfl (y_move rfl) ?_
    refine rw_p rfl rfl (y_as (c := true) (y_eq rfl rfl) (by decide)) ?_
    refine rw_p rfl rfl (y_pickT rfl rfl) ?_
    refine rw_p rfl rfl (y_move rfl) ?_
    refine rw_p rfl rfl (y_fieldAddr rfl fo34_3) ?_
    refine rw_p rfl rfl (y_fieldAddr rfl fo32_1) ?_
    refine rw_p rfl rfl (y_load rfl sc3 (hm.nt 1 rfl) rfl) ?_
    refine rw_p rfl rfl (y_fieldAddr rfl fo34_3) ?_
    refine rw_p rfl rfl (y_fieldAddr rfl fo32_1) ?_
    refine rw_p rfl rfl (y_load rfl sc3 (hm.nt 0 rfl) rfl) ?_
    refine rw_p rfl rfl (y_as (c := true) (y_eq rfl rfl) (decide_eq_true rfl)) ?_
    refine rw_p rfl rfl (y_pickT rfl rfl) ?_
    refine rw_p rfl rfl (y_move rfl) ?_
    refine rw_p rfl rfl (y_fieldAddr rfl fo34_3) ?_
    refine rw_p rfl rfl (y_fieldAddr rfl fo32_1) ?_
    refine rw_p rfl rfl (y_load rfl sc3 (hm.nt 1 rfl) rfl) ?_
    refine rw_p rfl rfl (y_fieldAddr rfl fo28_2) ?_
    refine rw_p rfl rfl (y_load rfl sc3 (hm.nt 3 rfl) rfl) ?_
    refine rw_p rfl rfl (y_mul rfl rfl (i64w (by omega) (by omega))) ?_
    refine rw_p rfl rfl (y_move rfl) ?_
    refine rw_p rfl rfl (y_as (c := true) (y_eq rfl rfl) (decide_eq_true rfl)) ?_
    refine rw_p rfl rfl (y_pickT rfl rfl) ?_
    refine rw_p rfl rfl (y_move rfl) ?_
    refine rw_p rfl rfl (y_move rfl) ?_
    refine rw_p rfl rfl (y_fieldAddr rfl fo28_3) ?_
    refine rw_p rfl rfl (y_load rfl sc3 (hm.nt 3 rfl) rfl) ?_
    refine rw_p rfl rfl (y_add rfl rfl (i64w (by omega) (by omega))) ?_
    refine rw_p rfl rfl (y_mul rfl rfl (i64w (by omega) (by omega))) ?_
    refine rw_p rfl rfl (y_as (c := true) (y_ge rfl rfl) (decide_eq_true (by omega))) ?_
    refine rw_p rfl rfl (y_pickT rfl rfl) ?_
    refine rw_p rfl rfl (y_move rfl) ?_
    refine rw_p rfl rfl (y_move rfl) ?_
    refine rw_p rfl rfl (y_fieldAddr rfl fo28_3) ?_
    refine rw_p rfl rfl (y_load rfl sc3 (hm.nt 3 rfl) rfl) ?_
    refine rw_p rfl rfl (y_add rfl rfl (i64w (by omega) (by omega))) ?_
    refine rw_p rfl rfl (y_fieldAddr rfl fo28_2) ?_
    refine rw_p rfl rfl (y_load rfl sc3 (hm.nt 3 rfl) rfl) ?_
    refine rw_p rfl rfl (y_add rfl rfl (i64w (by omega) (by omega))) ?_
    refine rw_p rfl rfl (y_mul rfl rfl (i64w (by omega) (by omega))) ?_
    refine rw_p rfl rfl (y_as (c := true) (y_lt rfl rfl) (decide_eq_true (by omega))) ?_
    refine rw_p rfl rfl (y_pickT rfl rfl) ?_
    refine rw_p rfl rfl (y_assign rfl) ?_
    refine rw_done ?_
    refine gn_sq ?_
    refine HW_ret rfl ?_
    refine toR (fin hret rfl (.tmp rfl .nil) .one ?_)
    exact ⟨rfl, hm.to⟩

end Go.Proofs.YtaehgpeenaomcaaGreat
