/- Contracts of functions of the program: what each returns. Conditions: the hypotheses of each theorem. -/
import Derived.Test.YtcngaknlagocdaaDlC
set_option linter.unusedVariables false
set_option linter.unusedSimpArgs false
namespace Go.Proofs.Ytcngaknlagocdaa
open Go Go.Cx

theorem go47 : isGo Try.prog 47 = true := by kernel_rfl
theorem go48 : isGo Try.prog 48 = true := by kernel_rfl
theorem go46 : isGo Try.prog 46 = true := by kernel_rfl
theorem sl48 : slcO Try.prog 48 = some (3, 1, 8) := by kernel_rfl

theorem r9_small (oo nn : Int) (H : Nat → UInt8) (q : Option Addr) (cq : Nat) (cs : List CmdV) (w0 : World) (h1 : Pl.I64 oo) (h2 : Pl.I64 nn) (hq : Rd w0 q (cs.flatMap encC)) (hdl : cs.length ≤ 4611686018427387903) (hok : ∀ c ∈ cs, okC w0 c) : C Try.prog 46 [.agg ⟨dlV oo nn H q cs.length cq⟩] w0 fun v w' => v = .bool ((cs.all (fun c => decide (c.d.bs.length ≤ 300)) && decide (cs.length ≤ 40)) && decide (nn ≤ 1000) && Pl.vdB oo nn (cs.map CmdV.cm)) ∧ Ext No w0 w' := by
  refine C_of Try.func46 rfl rfl rfl fun κ hret hnorm => ?_
  have hm := Mem.start w0
  refine HW_seq rfl ?_
  refine HW_text (.act 0 (.pure 1 .done)) (by kernel_rfl) ?_
  refine a_box rfl rfl rfl rfl hm trivial fun m1 w hg_m1 hm hh => ?_
  refine rw_p rfl rfl (y_assign rfl) ?_
  refine rw_done ?_
  refine gn_sq ?_
  refine HW_seq rfl ?_
  refine HW_text (.pure 0 (.act 1 (.pure 2 (.pure 3 (.pure 4 (.pure 5 (.pure 6 (.pure 7 (.pure 8 (.act 9 (.pure 10 (.pure 11 .done)))))))))))) (by kernel_rfl) ?_
  refine rw_p rfl rfl (y_loadA (s := 67) (vs := dlV oo nn H _ cs.length cq) rfl ag43 (hm.nt 0 rfl) rfl) ?_
  refine a_call rfl rfl rfl go47 (r5_few oo nn H q cq cs _ (hq.ext0 hm.to) hdl) fun v w hR => ?_
  obtain ⟨rfl, hE⟩ := hR
  refine ⟨trivial, ?_⟩
  replace hm := hm.ext hE
  refine rw_p rfl rfl (y_move rfl) ?_
  refine rw_g rfl rfl rfl (fun hc => (y_fieldAddr rfl fo43_1)) ?_
  refine rw_g rfl rfl rfl (fun hc => (y_load (gx hc rfl) sc3 (hm.nt 0 rfl) rfl)) ?_
  refine rw_g rfl rfl rfl (fun hc => (y_le (gx hc rfl) rfl)) ?_
  refine rw_p rfl rfl (y_and rfl rfl rfl) ?_
  refine rw_p rfl rfl (y_move rfl) ?_
  refine rw_g rfl rfl rfl (fun hc => (y_loadA (s := 67) (vs := dlV oo nn H _ cs.length cq) rfl ag43 (hm.nt 0 rfl) rfl)) ?_
  refine a_callG rfl rfl rfl (fun hc => (evs_c (gx hc rfl) evs_n)) go48 (fun hc => (r5_valid oo nn H q cq cs _ h1 h2 (hq.ext0 hm.to) hdl (fun c hc => okC.mono (hok c hc) hm.to))) trivial fun w hE hh => ?_
  replace hm := hm.ext hE
  refine rw_p rfl rfl (y_and rfl rfl rfl) ?_
  refine rw_p rfl rfl (y_assign rfl) ?_
  refine rw_done ?_
  refine gn_sq ?_
  refine HW_ret rfl ?_
  refine toR (fin hret rfl (.tmp rfl .nil) .one ?_)
  exact ⟨rfl, hm.to⟩

theorem r15_small (oo nn : Int) (H : Nat → UInt8) (q : Option Addr) (cq : Nat) (cs : List CmdV) (w0 : World) (h1 : Pl.I64 oo) (h2 : Pl.I64 nn) (hq : Rd w0 q (cs.flatMap encC)) (hok : ∀ c ∈ cs, okC w0 c) : C Try.prog 25 [.agg ⟨dlV oo nn H q cs.length cq⟩] w0 fun v w' => v = .bool (decide ((cs.length : Int) ≤ 20) && ((cs.all (fun c => decide (c.d.bs.length ≤ 300)) && decide (cs.length ≤ 40)) && decide (nn ≤ 1000) && Pl.vdB oo nn (cs.map CmdV.cm))) ∧ Ext No w0 w' := by
  refine C_of Try.func25 rfl rfl rfl fun κ hret hnorm => ?_
  have hm := Mem.start w0
  refine HW_seq rfl ?_
  refine HW_text (.act 0 (.pure 1 .done)) (by kernel_rfl) ?_
  refine a_box rfl rfl rfl rfl hm trivial fun m1 w hg_m1 hm hh => ?_
  refine rw_p rfl rfl (y_assign rfl) ?_
  refine rw_done ?_
  refine gn_sq ?_
  refine HW_seq rfl ?_
  refine HW_text (.pure 0 (.pure 1 (.pure 2 (.pure 3 (.pure 4 (.pure 5 (.act 6 (.pure 7 (.pure 8 .done))))))))) (by kernel_rfl) ?_
  refine rw_p rfl rfl (y_fieldAddr rfl fo43_4) ?_
  refine rw_p rfl rfl (y_load rfl sc27 (hm.nt 0 rfl) rfl) ?_
  refine rw_p rfl rfl (y_len rfl rfl sl27) ?_
  refine rw_p rfl rfl (y_le rfl rfl) ?_
  refine rw_p rfl rfl (y_move rfl) ?_
  refine rw_g rfl rfl rfl (fun hc => (y_loadA (s := 67) (vs := dlV oo nn H _ cs.length cq) rfl ag43 (hm.nt 0 rfl) rfl)) ?_
  refine a_callG rfl rfl rfl (fun hc => (evs_c (gx hc rfl) evs_n)) go46 (fun hc => (r9_small oo nn H q cq cs _ h1 h2 (hq.ext0 hm.to) (by simp at hc; omega) (fun c hc => okC.mono (hok c hc) hm.to))) trivial fun w hE hh => ?_
  replace hm := hm.ext hE
  refine rw_p rfl rfl (y_and rfl rfl rfl) ?_
  refine rw_p rfl rfl (y_assign rfl) ?_
  refine rw_done ?_
  refine gn_sq ?_
  refine HW_ret rfl ?_
  refine toR (fin hret rfl (.tmp rfl .nil) .one ?_)
  exact ⟨rfl, hm.to⟩

theorem r8_fits (oo nn : Int) (H : Nat → UInt8) (q : Option Addr) (cq : Nat) (cs : List CmdV) (r : Option Addr) (cr : Nat) (f : List UInt8) (w0 : World) (h1 : Pl.I64 oo) (h2 : Pl.I64 nn) (hq : Rd w0 q (cs.flatMap encC)) (hdl : cs.length ≤ 4611686018427387903) (hok : ∀ c ∈ cs, okC w0 c) : C Try.prog 26 [.slice r f.length cr, .agg ⟨dlV oo nn H q cs.length cq⟩] w0 fun v w' => v = .bool ((cs.all (fun c => decide (c.d.bs.length ≤ 300)) && decide (cs.length ≤ 40)) && Pl.vdB oo nn (cs.map CmdV.cm) && decide (oo = f.length) && decide (nn ≤ 3000)) ∧ Ext No w0 w' := by
  refine C_of Try.func26 rfl rfl rfl fun κ hret hnorm => ?_
  have hm := Mem.start w0
  refine HW_seq rfl ?_
  refine HW_text (.act 0 (.pure 1 .done)) (by kernel_rfl) ?_
  refine a_box rfl rfl rfl rfl hm trivial fun m1 w hg_m1 hm hh => ?_
  refine rw_p rfl rfl (y_assign rfl) ?_
  refine rw_done ?_
  refine gn_sq ?_
  refine HW_seq rfl ?_
  refine HW_text (.pure 0 (.act 1 (.pure 2 (.pure 3 (.act 4 (.pure 5 (.pure 6 (.pure 7 (.pure 8 (.pure 9 (.pure 10 (.pure 11 (.pure 12 (.pure 13 (.pure 14 (.pure 15 (.pure 16 (.pure 17 (.pure 18 .done))))))))))))))))))) (by kernel_rfl) ?_
  refine rw_p rfl rfl (y_loadA (s := 67) (vs := dlV oo nn H _ cs.length cq) rfl ag43 (hm.nt 0 rfl) rfl) ?_
  refine a_call rfl rfl rfl go47 (r5_few oo nn H q cq cs _ (hq.ext0 hm.to) hdl) fun v w hR => ?_
  obtain ⟨rfl, hE⟩ := hR
  refine ⟨trivial, ?_⟩
  replace hm := hm.ext hE
  refine rw_p rfl rfl (y_move rfl) ?_
  refine rw_g rfl rfl rfl (fun hc => (y_loadA (s := 67) (vs := dlV oo nn H _ cs.length cq) rfl ag43 (hm.nt 0 rfl) rfl)) ?_
  refine a_callG rfl rfl rfl (fun hc => (evs_c (gx hc rfl) evs_n)) go48 (fun hc => (r5_valid oo nn H q cq cs _ h1 h2 (hq.ext0 hm.to) hdl (fun c hc => okC.mono (hok c hc) hm.to))) trivial fun w hE hh => ?_
  replace hm := hm.ext hE
  refine rw_p rfl rfl (y_and rfl rfl rfl) ?_
  refine rw_p rfl rfl (y_move rfl) ?_
  refine rw_g rfl rfl rfl (fun hc => (y_fieldAddr rfl fo43_0)) ?_
  refine rw_g rfl rfl rfl (fun hc => (y_load (gx hc rfl) sc3 (hm.nt 0 rfl) rfl)) ?_
  refine rw_g rfl rfl rfl (fun hc => (y_move rfl)) ?_
  refine rw_g rfl rfl rfl (fun hc => (y_len (gx hc rfl) rfl sl22)) ?_
  refine rw_g rfl rfl rfl (fun hc => (y_eq (gx hc rfl) (gx hc rfl))) ?_
  refine rw_p rfl rfl (y_and rfl rfl rfl) ?_
  refine rw_p rfl rfl (y_move rfl) ?_
  refine rw_g rfl rfl rfl (fun hc => (y_fieldAddr rfl fo43_1)) ?_
  refine rw_g rfl rfl rfl (fun hc => (y_load (gx hc rfl) sc3 (hm.nt 0 rfl) rfl)) ?_
  refine rw_g rfl rfl rfl (fun hc => (y_le (gx hc rfl) rfl)) ?_
  refine rw_p rfl rfl (y_and rfl rfl rfl) ?_
  refine rw_p rfl rfl (y_assign rfl) ?_
  refine rw_done ?_
  refine gn_sq ?_
  refine HW_ret rfl ?_
  refine toR (fin hret rfl (.tmp rfl .nil) .one ?_)
  exact ⟨rfl, hm.to⟩

theorem r12_reads (a : Pl.Cm) (p1 : Option Addr) (c1 : Nat) (b : Pl.Cm) (p2 : Option Addr) (c2 : Nat) (w0 : World) (ha : Pl.ccheck a = 0) (hb : Pl.ccheck b = 0) : C Try.prog 32 [.agg ⟨cmV a p1 a.bs.length c1⟩, .agg ⟨cmV b p2 b.bs.length c2⟩] w0 fun v w' => v = .int .i64 (Pl.rds a b) ∧ Ext No w0 w' := by
  have hka := Pl.ccheck_ok ha
  have hkb := Pl.ccheck_ok hb
  refine C_of Try.func32 rfl rfl rfl fun κ hret hnorm => ?_
  have hm := Mem.start w0
  refine HW_seq rfl ?_
  refine HW_text (.act 0 (.act 1 (.pure 2 .done))) (by kernel_rfl) ?_
  refine a_box rfl rfl rfl rfl hm trivial fun m1 w hg_m1 hm hh => ?_
  refine a_box rfl rfl rfl rfl hm trivial fun m2 w hg_m2 hm hh => ?_
  refine rw_p rfl rfl (y_assign rfl) ?_
  refine rw_done ?_
  refine gn_sq ?_
  refine HW_seq rfl ?_
  refine HW_seq rfl ?_
  refine HW_text (.pure 0 (.pure 1 (.pure 2 .done))) (by kernel_rfl) ?_
  refine rw_p rfl rfl (y_fieldAddr rfl fo24_0) ?_
  refine rw_p rfl rfl (y_load rfl sc3 (hm.nt 1 rfl) rfl) ?_
  refine rw_p rfl rfl (y_ne rfl rfl) ?_
  refine rw_done ?_
  refine gn_sq ?_
  refine HW_cond rfl rfl (fun hc0 => ?_) (fun hc0 => ?_)
  ·
    refine HW_seq rfl ?_
    refine HW_text (.pure 0 .done) (by kernel_rfl) ?_
    refine rw_p rfl rfl (y_assign rfl) ?_
    refine rw_done ?_
    refine gn_sq ?_
    refine HW_ret rfl ?_
    refine gr_sq ?_
    refine toR (fin hret rfl (.tmp rfl .nil) .one ?_)
    exact ⟨by unfold Pl.rds; rw [if_pos (by simpa using hc0)], hm.to⟩
  ·
    simp only [decide_eq_false_iff_not, ne_eq, Decidable.not_not] at hc0
    refine HW_skip rfl ?_
    refine gn_sq ?_
    refine HW_seq rfl ?_
    refine HW_draw (.pure 0 (.pure 2 (.act 1 (.cut (.act 3 (.act 4 (.pure 5 (.pure 6 .done)))))))) No mix (by kernel_rfl) hm fun w hw hm0 hh => ?_
    have hm := hm0
    refine rw_p rfl rfl (y_loadA (s := 5) (vs := [_, _, _, _, _]) rfl ag24 (hm0.nd 1 rfl id) rfl) ?_
    refine rw_p rfl rfl (y_loadA (s := 5) (vs := [_, _, _, _, _]) rfl ag24 (hm0.nd 0 rfl id) rfl) ?_
    refine a_call rfl rfl rfl go41 (r4_source a p1 c1 _) fun v w hR => ?_
    obtain ⟨rfl, hE⟩ := hR
    refine ⟨hh.ext hE, ?_⟩
    replace hm := hm.ext hE
    replace hh := hh.ext hE
    refine a_cut ?_
    refine a_call rfl rfl rfl go40 (r4_target b p2 c2 _) fun v w hR => ?_
    obtain ⟨rfl, hE⟩ := hR
    refine ⟨trivial, ?_⟩
    replace hm := hm.ext hE
    refine a_call rfl rfl rfl go56 (r1_overlap a.fr a.ln b.to (Pl.clen b) _ (by omega) (by omega)) fun v w hR => ?_
    obtain ⟨rfl, hE⟩ := hR
    refine ⟨trivial, ?_⟩
    replace hm := hm.ext hE
    refine rw_p rfl rfl (y_fieldV rfl fv61_1 rfl) ?_
    refine rw_p rfl rfl (y_assign rfl) ?_
    refine rw_done ?_
    refine gn_sq ?_
    refine HW_ret rfl ?_
    refine toR (fin hret rfl (.tmp rfl .nil) .one ?_)
    exact ⟨by unfold Pl.rds; rw [if_neg (by simpa using hc0)]; rfl, hm.to⟩

theorem r12_place (p : Option Addr) (cap N : Nat) (x : Int) (w0 : World) (hx : Rd w0 p ((Pl.ids N).flatMap encI)) (h0 : 0 ≤ x ∧ x < N) (hN : N ≤ 9223372036854775807) : C Try.prog 50 [.slice p N cap, .int .i64 x] w0 fun v w' => v = .int .i64 x ∧ Ext No w0 w' := by
  refine C_of Try.func50 rfl rfl rfl fun κ hret hnorm => ?_
  have hm := Mem.start w0
  refine HW_seq rfl ?_
  refine HW_text (.pure 0 .done) (by kernel_rfl) ?_
  refine rw_p rfl rfl (y_assign rfl) ?_
  refine rw_done ?_
  refine gn_sq ?_
  refine HW_seq rfl ?_
  refine HW_seq rfl ?_
  refine HW_text (.pure 0 .done) (by kernel_rfl) ?_
  refine rw_p rfl rfl (y_assign rfl) ?_
  refine rw_done ?_
  refine gn_sq ?_
  refine HW_block rfl ?_
  refine HW_loopK (ι := Nat) rfl (ks := [0, 1]) (.cons rfl (.cons rfl .nil)) (fun k => [(5, .int .i64 k)]) (fun k w => Mem w0 w No [] ∧ (k : Int) ≤ x) (fun k => N - k) 0 (⟨hm, h0.1⟩) ⟨rfl, trivial⟩ (fun k w hM => ?_)
  obtain ⟨hm, hk⟩ := hM
  refine HW_seq rfl ?_
  refine HW_seq rfl ?_
  refine HW_text (.pure 0 (.pure 1 (.pure 2 (.pure 3 .done)))) (by kernel_rfl) ?_
  refine rw_p rfl rfl (y_move rfl) ?_
  refine rw_p rfl rfl (y_move rfl) ?_
  refine rw_p rfl rfl (y_len rfl rfl sl48) ?_
  refine rw_p rfl rfl (y_lt rfl rfl) ?_
  refine rw_done ?_
  refine gn_sq ?_
  refine HW_cond rfl rfl (fun hc0 => ?_) (fun hc0 => ?_)
  ·
    simp only [decide_eq_true_eq] at hc0
    have hi : (Pl.ids N)[k]? = some (k : Int) := Pl.ids_get (by omega)
    obtain ⟨qb, qo, rfl⟩ := hx.atI encI_len (by decide) hi
    refine HW_skip rfl ?_
    refine gn_sq ?_
    refine HW_seq rfl ?_
    refine HW_block rfl ?_
    refine HW_seq rfl ?_
    refine HW_text (.pure 0 (.pure 1 (.pure 2 (.pure 3 (.pure 4 (.pure 5 .done)))))) (by kernel_rfl) ?_
    refine rw_p rfl rfl (y_move rfl) ?_
    refine rw_p rfl rfl (y_move rfl) ?_
    refine rw_p rfl rfl (y_index rfl rfl sl48 rfl (by omega) (by omega)) ?_
    refine rw_p rfl rfl (y_el1 rfl sc3 (hx.ext0 hm.to).nt encI_len hi rfl) ?_
    refine rw_p rfl rfl (y_move rfl) ?_
    refine rw_p rfl rfl (y_eq rfl rfl) ?_
    refine rw_done ?_
    refine gn_sq ?_
    refine HW_cond rfl rfl (fun hc1 => ?_) (fun hc1 => ?_)
    ·
      simp only [decide_eq_true_eq] at hc1
      refine HW_seq rfl ?_
      refine HW_text (.pure 0 (.pure 1 .done)) (by kernel_rfl) ?_
      refine rw_p rfl rfl (y_move rfl) ?_
      refine rw_p rfl rfl (y_assign rfl) ?_
      refine rw_done ?_
      refine gn_sq ?_
      refine HW_ret rfl ?_
      refine gr_bl (gr_sq (gr_lp (gr_bl (gr_sq ?_))))
      refine toR (fin hret rfl (.tmp rfl .nil) .one ?_)
      exact ⟨by rw [hc1], hm.to⟩
    ·
      simp only [decide_eq_false_iff_not] at hc1
      refine HW_skip rfl ?_
      refine gn_bl ?_
      refine gn_sq ?_
      refine HW_text (.pure 0 (.pure 1 (.pure 2 .done))) (by kernel_rfl) ?_
      refine rw_p rfl rfl (y_move rfl) ?_
      refine rw_p rfl rfl (y_add rfl rfl (i64w (by omega) (by omega))) ?_
      refine rw_p rfl rfl (y_assign rfl) ?_
      refine rw_done ?_
      refine next (k + 1) (by omega) ⟨hm, by omega⟩ ⟨nx k, rfl, rfl, trivial⟩
  ·
    simp only [decide_eq_false_iff_not] at hc0
    refine HW_exit rfl ?_
    refine gx_sq (gx_lp ?_)
    refine gx_here ?_
    refine gn_sq ?_
    refine HW_seq rfl ?_
    refine HW_text (.pure 0 (.pure 1 (.pure 2 .done))) (by kernel_rfl) ?_
    refine rw_p rfl rfl (y_move rfl) ?_
    refine rw_p rfl rfl (y_len rfl rfl sl48) ?_
    refine rw_p rfl rfl (y_assign rfl) ?_
    refine rw_done ?_
    refine gn_sq ?_
    refine HW_ret rfl ?_
    refine toR (fin hret rfl (.tmp rfl .nil) .one ?_)
    exact absurd hc0 (by omega)

theorem law_places (q : Option Addr) (cq n : Nat) (w0 : World) (hn : n ≤ 40) : C Try.prog 28 [.slice q n cq] w0 fun v w' => ∃ (p : Option Addr) (n9 cap g : Nat) (b : Blk), v = .slice p n9 cap ∧ Acc 3 1 p n9 cap ((Pl.ids n).flatMap encI) g b ∧ Mem w0 w' No [(g, b)] ∧ n9 = n := by
  refine C_of Try.func28 rfl rfl rfl fun κ hret hnorm => ?_
  have hm := Mem.start w0
  refine HW_seq rfl ?_
  refine HW_text (.pure 0 .done) (by kernel_rfl) ?_
  refine rw_p rfl rfl (y_assign rfl) ?_
  refine rw_done ?_
  refine gn_sq ?_
  refine HW_seq rfl ?_
  refine HW_text (.pure 0 .done) (by kernel_rfl) ?_
  refine rw_p rfl rfl (y_assign rfl) ?_
  replace hm := hm.gapIn
  have ha_o := Acc.nil 3 1 none 0
  refine rw_done ?_
  refine gn_sq ?_
  refine HW_seq rfl ?_
  refine HW_seq rfl ?_
  refine HW_text (.pure 0 (.pure 1 (.pure 2 .done))) (by kernel_rfl) ?_
  refine rw_p rfl rfl (y_move rfl) ?_
  refine rw_p rfl rfl (y_len rfl rfl sl27) ?_
  refine rw_p rfl rfl (y_move rfl) ?_
  refine rw_done ?_
  refine gn_sq ?_
  refine HW_block rfl ?_
  refine HW_loopK (ι := Nat × Ow) rfl (ks := [2, 6]) (.cons rfl (.cons rfl .nil)) (fun x => [(7, .int .i64 x.1), (3, .slice x.2.p x.2.n x.2.cap)]) (fun x w => Mem w0 w No [(x.2.g, x.2.b)] ∧ Acc 3 1 x.2.p x.2.n x.2.cap ((Pl.ids x.1).flatMap encI) x.2.g x.2.b ∧ x.1 ≤ n ∧ x.2.n = x.1) (fun x => n - x.1) (0, ⟨none, 0, 0, 0, .gap⟩) (⟨hm, ha_o, Nat.zero_le _, rfl⟩) ⟨rfl, rfl, trivial⟩ (fun x w hM => ?_)
  obtain ⟨hm, ha_o, hk, hn9⟩ := hM
  refine HW_seq rfl ?_
  refine HW_text (.pure 0 .done) (by kernel_rfl) ?_
  refine rw_p rfl rfl (y_lt rfl rfl) ?_
  refine rw_done ?_
  refine gn_sq ?_
  refine HW_seq rfl ?_
  refine HW_cond rfl rfl (fun hc0 => ?_) (fun hc0 => ?_)
  ·
    simp only [decide_eq_true_eq] at hc0
    refine HW_skip rfl ?_
    refine gn_sq ?_
    refine HW_seq rfl ?_
    refine HW_block rfl ?_
    refine HW_seq rfl ?_
    refine HW_text (.pure 0 (.pure 1 .done)) (by kernel_rfl) ?_
    refine rw_p rfl rfl (y_move rfl) ?_
    refine rw_p rfl rfl (y_assign rfl) ?_
    refine rw_done ?_
    refine gn_sq ?_
    refine HW_text (.pure 0 (.pure 1 (.act 2 (.act 3 (.pure 4 .done))))) (by kernel_rfl) ?_
    refine rw_p rfl rfl (y_move rfl) ?_
    refine rw_p rfl rfl (y_move rfl) ?_
    refine a_buildSlice (l := [_]) rfl rfl sl48 z3 rfl rfl rfl rfl rfl rfl rfl hm trivial fun m1 w hg_m1 hm hh => ?_
    refine a_append rfl rfl rfl rfl rfl rfl sl48 sl48 z3 rfl rfl (Rd.row0 (hm.get (k := 0) rfl)) rfl ha_o hm 1 rfl (by omega) (by omega) fun p_o cap_o g_o b_o w ha_o hm => ?_
    refine rw_p rfl rfl (y_assign rfl) ?_
    refine rw_done ?_
    refine gn_bl ?_
    refine gn_sq ?_
    refine HW_text (.pure 0 (.pure 1 .done)) (by kernel_rfl) ?_
    refine rw_p rfl rfl (y_add rfl rfl (i64w (by omega) (by omega))) ?_
    refine rw_p rfl rfl (y_move rfl) ?_
    refine rw_done ?_
    refine next (x.1 + 1, ⟨p_o, _, cap_o, g_o, b_o⟩) (by simp only; omega) ⟨(hm.pick [1] rfl), ha_o.to ?_, by simp only; omega, by simp only; omega⟩ ⟨nx x.1, rfl, rfl, rfl, trivial⟩
    rw [Pl.ids_next, List.flatMap_append]; rfl
  ·
    simp only [decide_eq_false_iff_not] at hc0
    have hke : x.1 = n := by omega
    rw [hke] at ha_o hn9
    refine HW_exit rfl ?_
    refine gx_sq (gx_lp ?_)
    refine gx_here ?_
    refine gn_sq ?_
    refine HW_seq rfl ?_
    refine HW_text (.pure 0 (.pure 1 .done)) (by kernel_rfl) ?_
    refine rw_p rfl rfl (y_move rfl) ?_
    refine rw_p rfl rfl (y_assign rfl) ?_
    refine rw_done ?_
    refine gn_sq ?_
    refine HW_ret rfl ?_
    refine toR (fin hret rfl (.tmp rfl .nil) .one ?_)
    exact ⟨_, _, _, _, _, rfl, ha_o, (hm.pick [0] rfl), hn9⟩

set_option maxHeartbeats 400000 in
theorem r16_ext (r : Option Addr) (cr : Nat) (f : List UInt8) (n : Int) (w0 : World) (hf : Rd w0 r (f.flatMap encB)) (hfl : f.length ≤ 1000000) (hn : n ≤ 1000000) : C Try.prog 30 [.slice r f.length cr, .int .i64 n] w0 fun v w' => ∃ (p : Option Addr) (n9 cap g : Nat) (b : Blk), v = .slice p n9 cap ∧ Acc 5 1 p n9 cap ((Pl.extd f n).flatMap encB) g b ∧ Mem w0 w' No [(g, b)] := by
  refine C_of Try.func30 rfl rfl rfl fun κ hret hnorm => ?_
  have hm := Mem.start w0
  refine HW_seq rfl ?_
  refine HW_text (.pure 0 .done) (by kernel_rfl) ?_
  refine rw_p rfl rfl (y_assign rfl) ?_
  refine rw_done ?_
  refine gn_sq ?_
  refine HW_seq rfl ?_
  refine HW_text (.act 0 (.pure 1 (.act 2 (.pure 3 .done)))) (by kernel_rfl) ?_
  refine a_buildSlice (l := []) rfl rfl sl22 z5 rfl rfl rfl rfl rfl rfl rfl hm trivial fun m1 w hg_m1 hm hh => ?_
  refine rw_p rfl rfl (y_move rfl) ?_
  refine a_append rfl rfl rfl rfl rfl rfl sl22 sl22 z5 rfl (oneB f) (hf.ext0 hm.to) (lenB f) (Acc.row rfl) hm 0 rfl (by omega) (by omega) fun p_s cap_s g_s b_s w ha_s hm => ?_
  refine rw_p rfl rfl (y_assign rfl) ?_
  refine rw_done ?_
  refine gn_sq ?_
  refine HW_seq rfl ?_
  refine HW_block rfl ?_
  refine HW_loopK (ι := Nat × Ow) rfl (ks := [1, 4]) (.cons rfl (.cons rfl .nil)) (fun x => [(5, .slice x.2.p x.2.n x.2.cap)]) (fun x w => Mem w0 w No [(x.2.g, x.2.b)] ∧ Acc 5 1 x.2.p x.2.n x.2.cap ((f ++ List.replicate x.1 0).flatMap encB) x.2.g x.2.b ∧ x.2.n = f.length + x.1 ∧ (x.1 : Int) ≤ max 0 (n - f.length)) (fun x => (n - f.length).toNat - x.1) (0, ⟨p_s, _, cap_s, g_s, b_s⟩) (⟨(hm.pick [0] rfl), ha_s.to (by simp), by simp, by simp only; omega⟩) ⟨rfl, trivial⟩ (fun x w hM => ?_)
  obtain ⟨hm, ha_s, hn9, hx9⟩ := hM
  refine HW_seq rfl ?_
  refine HW_seq rfl ?_
  refine HW_text (.pure 0 (.pure 1 (.pure 2 (.pure 3 .done)))) (by kernel_rfl) ?_
  refine rw_p rfl rfl (y_move rfl) ?_
  refine rw_p rfl rfl (y_len rfl rfl sl22) ?_
  refine rw_p rfl rfl (y_move rfl) ?_
  refine rw_p rfl rfl (y_lt rfl rfl) ?_
  refine rw_done ?_
  refine gn_sq ?_
  refine HW_cond rfl rfl (fun hc0 => ?_) (fun hc0 => ?_)
  ·
    simp only [decide_eq_true_eq] at hc0
    refine HW_skip rfl ?_
    refine gn_sq ?_
    refine HW_block rfl ?_
    refine HW_text (.pure 0 (.act 1 (.act 2 (.pure 3 .done)))) (by kernel_rfl) ?_
    refine rw_p rfl rfl (y_move rfl) ?_
    refine a_buildSlice (l := [_]) rfl rfl sl22 z5 rfl rfl rfl rfl rfl rfl rfl hm trivial fun m2 w hg_m2 hm hh => ?_
    refine a_append rfl rfl rfl rfl rfl rfl sl22 sl22 z5 rfl rfl (Rd.row0 (hm.get (k := 0) rfl)) rfl ha_s hm 1 rfl (by omega) (by omega) fun p_s cap_s g_s b_s w ha_s hm => ?_
    refine rw_p rfl rfl (y_assign rfl) ?_
    refine rw_done ?_
    refine gn_bl ?_
    refine next (x.1 + 1, ⟨p_s, _, cap_s, g_s, b_s⟩) (by simp only; omega) ⟨(hm.pick [1] rfl), ha_s.to ?_, by simp only; omega, by simp only; omega⟩ ⟨rfl, rfl, rfl, trivial⟩
    simp only [repl_next, List.flatMap_append, List.flatMap_cons, List.flatMap_nil, List.append_nil]; rfl
  ·
    simp only [decide_eq_false_iff_not] at hc0
    have hke : x.1 = (n - f.length).toNat := by omega
    rw [hke] at ha_s
    refine HW_exit rfl ?_
    refine gx_sq (gx_lp ?_)
    refine gx_here ?_
    refine gn_sq ?_
    refine HW_seq rfl ?_
    refine HW_text (.pure 0 (.pure 1 .done)) (by kernel_rfl) ?_
    refine rw_p rfl rfl (y_move rfl) ?_
    refine rw_p rfl rfl (y_assign rfl) ?_
    refine rw_done ?_
    refine gn_sq ?_
    refine HW_ret rfl ?_
    refine toR (fin hret rfl (.tmp rfl .nil) .one ?_)
    exact ⟨_, _, _, _, _, rfl, ha_s, (hm.pick [0] rfl)⟩

end Go.Proofs.Ytcngaknlagocdaa
