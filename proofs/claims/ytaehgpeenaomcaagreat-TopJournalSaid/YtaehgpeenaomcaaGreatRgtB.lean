/- Contracts of functions of the program: what each returns. Conditions: the hypotheses of each theorem. -/
import Derived.Test.YtaehgpeenaomcaaGreatRgt
set_option linter.unusedVariables false
set_option linter.unusedSimpArgs false
namespace Go.Proofs.YtaehgpeenaomcaaGreat
open Go Go.Cx

theorem fo28_0 : fldO Tryz.prog 28 0 = some 0 := by kernel_rfl
theorem fo28_1 : fldO Tryz.prog 28 1 = some 1 := by kernel_rfl
theorem fo28_2 : fldO Tryz.prog 28 2 = some 68 := by kernel_rfl
theorem fo28_3 : fldO Tryz.prog 28 3 = some 69 := by kernel_rfl
theorem fo28_4 : fldO Tryz.prog 28 4 = some 70 := by kernel_rfl
theorem go15 : isGo Tryz.prog 15 = true := by kernel_rfl
theorem go16 : isGo Tryz.prog 16 = true := by kernel_rfl

set_option maxHeartbeats 800000 in
theorem l24_right (oo nn : Int) (H : Nat → UInt8) (q : Option Addr) (cq : Nat) (cs : List CmdV) (r : Option Addr) (cr : Nat) (f : List UInt8) (sz bd mo : Int) (w0 : World) (h1 : Pl.I64 oo) (h2 : Pl.I64 nn) (hs : Pl.I64 sz) (hb : Pl.I64 bd) (hq : Rd w0 q (cs.flatMap encC)) (hok : ∀ c ∈ cs, okC w0 c) : C Tryz.prog 6 [.agg ⟨caV r f.length cr oo nn H q cs.length cq sz bd mo⟩] w0 fun v w' => v = .int .i64 (bif (decide ((f.length : Int) > 300) || !(bif (decide ((cs.length : Int) > 20) || decide (oo > 300) || decide (nn > 300) || !(cs.all (fun c => decide (c.d.bs.length ≤ 300)) && decide (cs.length ≤ 40)) || !Pl.vdB oo nn (cs.map CmdV.cm) || decide (bd > 300)) then false else (Pl.valid 0 nn && (decide (bd < 1) || few18 bd cs))) || !((cs.all (fun c => decide (c.d.bs.length ≤ 300)) && decide (cs.length ≤ 40)) && Pl.vdB oo nn (cs.map CmdV.cm) && decide (oo = f.length) && decide (nn ≤ 3000)) || decide (bd < 1) || decide (sz < 1) || decide (sz > 1000) || decide (mo < 0) || decide (mo > 100)) then 0 else 1) ∧ Ext No w0 w' := by
  refine C_of Tryz.func6 rfl rfl rfl fun κ hret hnorm => ?_
  have hm := Mem.start w0
  refine HW_seq rfl ?_
  refine HW_text (.act 0 (.pure 1 .done)) (by kernel_rfl) ?_
  refine a_box rfl rfl rfl rfl hm trivial fun m1 w hg_m1 hm hh => ?_
  refine rw_p rfl rfl (y_assign rfl) ?_
  refine rw_done ?_
  refine gn_sq ?_
  refine HW_seq rfl ?_
  refine HW_seq rfl ?_
  refine HW_text (.pure 0 (.pure 1 (.pure 2 (.pure 3 (.pure 4 (.pure 5 (.pure 6 (.pure 7 (.pure 8 (.act 9 (.pure 10 (.pure 11 (.pure 12 (.pure 13 (.pure 14 (.pure 15 (.pure 16 (.act 17 (.pure 18 (.pure 19 (.pure 20 (.pure 21 (.pure 22 (.pure 23 (.pure 24 (.pure 25 (.pure 26 (.pure 27 (.pure 28 (.pure 29 (.pure 30 (.pure 31 (.pure 32 (.pure 33 (.pure 34 (.pure 35 (.pure 36 (.pure 37 (.pure 38 (.pure 39 (.pure 40 (.pure 41 (.pure 42 (.pure 43 (.pure 44 .done))))))))))))))))))))))))))))))))))))))))))))) (by kernel_rfl) ?_
  refine rw_p rfl rfl (y_fieldAddr rfl fo28_0) ?_
  refine rw_p rfl rfl (y_load rfl sc22 (hm.nt 0 rfl) rfl) ?_
  refine rw_p rfl rfl (y_len rfl rfl sl22) ?_
  refine rw_p rfl rfl (y_gt rfl rfl) ?_
  refine rw_p rfl rfl (y_move rfl) ?_
  refine rw_g rfl rfl rfl (fun hc => (y_fieldAddr rfl fo28_3)) ?_
  refine rw_g rfl rfl rfl (fun hc => (y_load (gx hc rfl) sc3 (hm.nt 0 rfl) rfl)) ?_
  refine rw_g rfl rfl rfl (fun hc => (y_fieldAddr rfl fo28_1)) ?_
  refine rw_g rfl rfl rfl (fun hc => (y_loadA (s := 67) (vs := dlV oo nn H _ cs.length cq) (gx hc rfl) ag26 (hm.nt 0 rfl) rfl)) ?_
  refine a_callG rfl rfl rfl (fun hc => (evs_c (gx hc rfl) (evs_c (gx hc rfl) evs_n))) go15 (fun hc => (r24_small oo nn H q cq cs bd _ h1 h2 hb (hq.ext0 hm.to) (fun c hc => okC.mono (hok c hc) hm.to))) trivial fun w hE hh => ?_
  replace hm := hm.ext hE
  refine rw_g rfl rfl rfl (fun hc => (y_not (gx hc rfl))) ?_
  refine rw_p rfl rfl (y_or rfl rfl rfl) ?_
  refine rw_p rfl rfl (y_move rfl) ?_
  refine rw_g rfl rfl rfl (fun hc => (y_fieldAddr rfl fo28_0)) ?_
  refine rw_g rfl rfl rfl (fun hc => (y_load (gx hc rfl) sc22 (hm.nt 0 rfl) rfl)) ?_
  refine rw_g rfl rfl rfl (fun hc => (y_fieldAddr rfl fo28_1)) ?_
  refine rw_g rfl rfl rfl (fun hc => (y_loadA (s := 67) (vs := dlV oo nn H _ cs.length cq) (gx hc rfl) ag26 (hm.nt 0 rfl) rfl)) ?_
  refine a_callG rfl rfl rfl (fun hc => (evs_c (gx hc rfl) (evs_c (gx hc rfl) evs_n))) go16 (fun hc => (r8_fits oo nn H q cq cs r cr f _ h1 h2 (hq.ext0 hm.to) (by have := sm20 hc; omega) (fun c hc => okC.mono (hok c hc) hm.to))) trivial fun w hE hh => ?_
  replace hm := hm.ext hE
  refine rw_g rfl rfl rfl (fun hc => (y_not (gx hc rfl))) ?_
  refine rw_p rfl rfl (y_or rfl rfl rfl) ?_
  refine rw_p rfl rfl (y_move rfl) ?_
  refine rw_g rfl rfl rfl (fun hc => (y_fieldAddr rfl fo28_3)) ?_
  refine rw_g rfl rfl rfl (fun hc => (y_load (gx hc rfl) sc3 (hm.nt 0 rfl) rfl)) ?_
  refine rw_g rfl rfl rfl (fun hc => (y_lt (gx hc rfl) rfl)) ?_
  refine rw_p rfl rfl (y_or rfl rfl rfl) ?_
  refine rw_p rfl rfl (y_move rfl) ?_
  refine rw_g rfl rfl rfl (fun hc => (y_fieldAddr rfl fo28_2)) ?_
  refine rw_g rfl rfl rfl (fun hc => (y_load (gx hc rfl) sc3 (hm.nt 0 rfl) rfl)) ?_
  refine rw_g rfl rfl rfl (fun hc => (y_lt (gx hc rfl) rfl)) ?_
  refine rw_p rfl rfl (y_or rfl rfl rfl) ?_
  refine rw_p rfl rfl (y_move rfl) ?_
  refine rw_g rfl rfl rfl (fun hc => (y_fieldAddr rfl fo28_2)) ?_
  refine rw_g rfl rfl rfl (fun hc => (y_load (gx hc rfl) sc3 (hm.nt 0 rfl) rfl)) ?_
  refine rw_g rfl rfl rfl (fun hc => (y_gt (gx hc rfl) rfl)) ?_
  refine rw_p rfl rfl (y_or rfl rfl rfl) ?_
  refine rw_p rfl rfl (y_move rfl) ?_
  refine rw_g rfl rfl rfl (fun hc => (y_fieldAddr rfl fo28_4)) ?_
  refine rw_g rfl rfl rfl (fun hc => (y_load (gx hc rfl) sc3 (hm.nt 0 rfl) rfl)) ?_
  refine rw_g rfl rfl rfl (fun hc => (y_lt (gx hc rfl) rfl)) ?_
  refine rw_p rfl rfl (y_or rfl rfl rfl) ?_
  refine rw_p rfl rfl (y_move rfl) ?_
  refine rw_g rfl rfl rfl (fun hc => (y_fieldAddr rfl fo28_4)) ?_
  refine rw_g rfl rfl rfl (fun hc => (y_load (gx hc rfl) sc3 (hm.nt 0 rfl) rfl)) ?_
  refine rw_g rfl rfl rfl (fun hc => (y_gt (gx hc rfl) rfl)) ?_
  refine rw_p rfl rfl (y_or rfl rfl rfl) ?_
  refine rw_done ?_
  refine gn_sq ?_
  refine HW_cond rfl rfl (fun hc0 => ?_) (fun hc0 => ?_)
  ·
    refine HW_seq rfl ?_
    refine HW_text (.pure 0 .done) (by kernel_rfl) ?_
    refine rw_p rfl rfl (y_assign rfl) ?_
    refine rw_done ?_
    refine gn_sq ?_
    refine HW_ret rfl ?_
    refine gr_sq ?_
    refine toR (fin hret rfl (.tmp rfl .nil) .one ?_)
    exact ⟨by rw [show (decide ((f.length : Int) > 300) || !(bif (decide ((cs.length : Int) > 20) || decide (oo > 300) || decide (nn > 300) || !(cs.all (fun c => decide (c.d.bs.length ≤ 300)) && decide (cs.length ≤ 40)) || !Pl.vdB oo nn (cs.map CmdV.cm) || decide (bd > 300)) then false else (Pl.valid 0 nn && (decide (bd < 1) || few18 bd cs))) || !((cs.all (fun c => decide (c.d.bs.length ≤ 300)) && decide (cs.length ≤ 40)) && Pl.vdB oo nn (cs.map CmdV.cm) && decide (oo = f.length) && decide (nn ≤ 3000)) || decide (bd < 1) || decide (sz < 1) || decide (sz > 1000) || decide (mo < 0) || decide (mo > 100)) = true from hc0]; rfl, hm.to⟩
  ·
    refine HW_skip rfl ?_
    refine gn_sq ?_
    refine HW_seq rfl ?_
    refine HW_text (.pure 0 .done) (by kernel_rfl) ?_
    refine rw_p rfl rfl (y_assign rfl) ?_
    refine rw_done ?_
    refine gn_sq ?_
    refine HW_ret rfl ?_
    refine toR (fin hret rfl (.tmp rfl .nil) .one ?_)
    exact ⟨by rw [show (decide ((f.length : Int) > 300) || !(bif (decide ((cs.length : Int) > 20) || decide (oo > 300) || decide (nn > 300) || !(cs.all (fun c => decide (c.d.bs.length ≤ 300)) && decide (cs.length ≤ 40)) || !Pl.vdB oo nn (cs.map CmdV.cm) || decide (bd > 300)) then false else (Pl.valid 0 nn && (decide (bd < 1) || few18 bd cs))) || !((cs.all (fun c => decide (c.d.bs.length ≤ 300)) && decide (cs.length ≤ 40)) && Pl.vdB oo nn (cs.map CmdV.cm) && decide (oo = f.length) && decide (nn ≤ 3000)) || decide (bd < 1) || decide (sz < 1) || decide (sz > 1000) || decide (mo < 0) || decide (mo > 100)) = false from hc0]; rfl, hm.to⟩

end Go.Proofs.YtaehgpeenaomcaaGreat
