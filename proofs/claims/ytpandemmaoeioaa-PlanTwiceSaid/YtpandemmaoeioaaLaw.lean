/- Contracts of functions of the program: what each returns. Conditions: the hypotheses of each theorem. -/
import Derived.Test.YtpandemmaoeioaaPlnI
import Derived.Test.YtpandemmaoeioaaCxT
set_option linter.unusedVariables false
set_option linter.unusedSimpArgs false
namespace Go.Proofs.Ytpandemmaoeioaa
open Go Go.Cx

theorem go35 : isGo Try.prog 35 = true := by kernel_rfl

theorem r1_totalW (p : Option Addr) (cap : Nat) (xs : List (Int × Int)) (w0 : World) (hx : Rd w0 p (xs.flatMap encE)) (hlen : xs.length ≤ 9223372036854775807) : C Try.prog 35 [.slice p xs.length cap] w0 fun v w' => v = .tuple ⟨[.int .i64 ((Pl.totW 0 xs).getD 0), .bool (Pl.totW 0 xs).isSome]⟩ ∧ Ext No w0 w' := by
  refine C_of Try.func35 rfl rfl rfl fun κ hret hnorm => ?_
  have hm := Mem.start w0
  refine HW_seq rfl ?_
  refine HW_text (.pure 0 (.pure 1 .done)) (by kernel_rfl) ?_
  refine rw_p rfl rfl (y_assign rfl) ?_
  refine rw_p rfl rfl (y_assign rfl) ?_
  refine rw_done ?_
  refine gn_sq ?_
  refine HW_seq rfl ?_
  refine HW_text (.pure 0 .done) (by kernel_rfl) ?_
  refine rw_p rfl rfl (y_assign rfl) ?_
  refine rw_done ?_
  refine gn_sq ?_
  refine HW_seq rfl ?_
  refine HW_seq rfl ?_
  refine HW_text (.pure 0 .done) (by kernel_rfl) ?_
  refine rw_p rfl rfl (y_assign rfl) ?_
  refine rw_done ?_
  refine gn_sq ?_
  refine HW_block rfl ?_
  refine HW_loopK (ι := Nat × Int) rfl (ks := [0]) (.cons rfl .nil) (fun x => [(5, .int .i64 x.1), (4, .int .i64 x.2)]) (fun x w => Mem w0 w No [] ∧ x.1 ≤ xs.length ∧ Pl.totW 0 xs = Pl.totW x.2 (xs.drop x.1)) (fun x => xs.length - x.1) (0, 0) (⟨hm, Nat.zero_le _, by simp⟩) ⟨rfl, rfl, trivial⟩ (fun x w hM => ?_)
  obtain ⟨hm, hk, ht⟩ := hM
  refine HW_seq rfl ?_
  refine HW_seq rfl ?_
  refine HW_text (.pure 0 (.pure 1 (.pure 2 (.pure 3 .done)))) (by kernel_rfl) ?_
  refine rw_p rfl rfl (y_move rfl) ?_
  refine rw_p rfl rfl (y_move rfl) ?_
  refine rw_p rfl rfl (y_len rfl rfl sl65) ?_
  refine rw_p rfl rfl (y_lt rfl rfl) ?_
  refine rw_done ?_
  refine gn_sq ?_
  refine HW_cond rfl rfl (fun hc0 => ?_) (fun hc0 => ?_)
  ·
    simp only [decide_eq_true_eq] at hc0
    obtain ⟨el, hi⟩ : ∃ y_, xs[x.1]? = some y_ := ⟨_, List.getElem?_eq_getElem (by omega)⟩
    obtain ⟨qb, qo, rfl⟩ := hx.atI encE_len (by decide) hi
    refine HW_skip rfl ?_
    refine gn_sq ?_
    refine HW_seq rfl ?_
    refine HW_block rfl ?_
    refine HW_seq rfl ?_
    refine HW_seq rfl ?_
    refine HW_draw (.pure 0 (.pure 1 (.pure 2 (.pure 3 (.pure 4 (.pure 6 (.act 5 (.pure 7 (.pure 8 .done))))))))) No mix (by kernel_rfl) hm fun w hw hm0 hh => ?_
    have hm := hm0
    refine rw_p rfl rfl (y_move rfl) ?_
    refine rw_p rfl rfl (y_move rfl) ?_
    refine rw_p rfl rfl (y_index rfl rfl sl65 rfl (by omega) (by omega)) ?_
    refine rw_p rfl rfl (y_fieldAddr rfl fo67_1) ?_
    refine rw_p rfl rfl (y_elS rfl sc3 (hx.ext0 hm0.to).nd encE_len hi rfl) ?_
    refine rw_p rfl rfl (y_move rfl) ?_
    refine a_call rfl rfl rfl go51 (r1_max _) fun v w hR => ?_
    obtain ⟨rfl, hE⟩ := hR
    refine ⟨hh.ext hE, ?_⟩
    replace hm := hm.ext hE
    replace hh := hh.ext hE
    refine rw_p rfl rfl (y_sub rfl rfl rfl) ?_
    refine rw_p rfl rfl (y_gt rfl rfl) ?_
    refine rw_done ?_
    refine gn_sq ?_
    refine HW_cond rfl rfl (fun hc1 => ?_) (fun hc1 => ?_)
    ·
      refine HW_seq rfl ?_
      refine HW_text (.pure 0 (.pure 1 .done)) (by kernel_rfl) ?_
      refine rw_p rfl rfl (y_assign rfl) ?_
      refine rw_p rfl rfl (y_assign rfl) ?_
      refine rw_done ?_
      refine gn_sq ?_
      refine HW_ret rfl ?_
      refine gr_sq (gr_bl (gr_sq (gr_lp (gr_bl (gr_sq ?_)))))
      refine toR (fin hret rfl (.tmp rfl (.tmp rfl .nil)) .more ?_)
      have e : Pl.totW 0 xs = none := by rw [ht, Pl.drop_cons hi, Pl.totW, if_pos (by simpa using hc1)]
      rw [e]; exact ⟨rfl, hm.to⟩
    ·
      refine HW_skip rfl ?_
      refine gn_sq ?_
      refine HW_text (.pure 0 (.pure 1 (.pure 2 (.pure 3 (.pure 4 (.pure 5 (.pure 6 (.pure 7 .done)))))))) (by kernel_rfl) ?_
      refine rw_p rfl rfl (y_move rfl) ?_
      refine rw_p rfl rfl (y_move rfl) ?_
      refine rw_p rfl rfl (y_move rfl) ?_
      refine rw_p rfl rfl (y_index rfl rfl sl65 rfl (by omega) (by omega)) ?_
      refine rw_p rfl rfl (y_fieldAddr rfl fo67_1) ?_
      refine rw_p rfl rfl (y_elS rfl sc3 (hx.ext0 hm.to).nt encE_len hi rfl) ?_
      refine rw_p rfl rfl (y_add rfl rfl rfl) ?_
      refine rw_p rfl rfl (y_assign rfl) ?_
      refine rw_done ?_
      refine gn_bl ?_
      refine gn_sq ?_
      refine HW_text (.pure 0 (.pure 1 (.pure 2 .done))) (by kernel_rfl) ?_
      refine rw_p rfl rfl (y_move rfl) ?_
      refine rw_p rfl rfl (y_add rfl rfl (i64w (by omega) (by omega))) ?_
      refine rw_p rfl rfl (y_assign rfl) ?_
      refine rw_done ?_
      refine next (x.1 + 1, IntKind.i64.wrap (x.2 + el.2)) (by simp only; omega) ⟨hm, by simp only; omega, ?_⟩ ⟨nx x.1, rfl, rfl, trivial⟩
      rw [ht, Pl.drop_cons hi, Pl.totW, if_neg (by simpa using hc1)]
  ·
    simp only [decide_eq_false_iff_not] at hc0
    have hk : x.1 = xs.length := by omega
    rw [hk, List.drop_length] at ht
    refine HW_exit rfl ?_
    refine gx_sq (gx_lp ?_)
    refine gx_here ?_
    refine gn_sq ?_
    refine HW_seq rfl ?_
    refine HW_text (.pure 0 (.pure 1 (.pure 2 .done))) (by kernel_rfl) ?_
    refine rw_p rfl rfl (y_move rfl) ?_
    refine rw_p rfl rfl (y_assign rfl) ?_
    refine rw_p rfl rfl (y_assign rfl) ?_
    refine rw_done ?_
    refine gn_sq ?_
    refine HW_ret rfl ?_
    refine toR (fin hret rfl (.tmp rfl (.tmp rfl .nil)) .more ?_)
    have e : Pl.totW 0 xs = some x.2 := by rw [ht, Pl.totW]
    rw [e]; exact ⟨rfl, hm.to⟩

theorem law_total (q : Option Addr) (cq : Nat) (xs : List CmdV) (w0 : World) (hq : Rd w0 q (xs.flatMap encC)) (hl : xs.length ≤ 1000000) : C Try.prog 12 [.slice q xs.length cq] w0 fun v w' => v = .tuple ⟨[.int .i64 ((Pl.totW 0 (Pl.targets (xs.map CmdV.cm))).getD 0), .bool (Pl.totW 0 (Pl.targets (xs.map CmdV.cm))).isSome]⟩ ∧ Ext No w0 w' := by
  refine C_of Try.func12 rfl rfl rfl fun κ hret hnorm => ?_
  have hm := Mem.start w0
  refine HW_seq rfl ?_
  refine HW_text (.pure 0 (.pure 1 .done)) (by kernel_rfl) ?_
  refine rw_p rfl rfl (y_assign rfl) ?_
  refine rw_p rfl rfl (y_assign rfl) ?_
  refine rw_done ?_
  refine gn_sq ?_
  refine HW_seq rfl ?_
  refine HW_text (.pure 0 .done) (by kernel_rfl) ?_
  refine rw_p rfl rfl (y_assign rfl) ?_
  replace hm := hm.gapIn
  have ha_o := Acc.nil 67 2 none 0
  refine rw_done ?_
  refine gn_sq ?_
  refine HW_seq rfl ?_
  refine HW_seq rfl ?_
  refine HW_text (.pure 0 (.pure 1 (.pure 2 .done))) (by kernel_rfl) ?_
  refine rw_p rfl rfl (y_move rfl) ?_
  refine rw_p rfl rfl (y_len rfl rfl sl22) ?_
  refine rw_p rfl rfl (y_move rfl) ?_
  refine rw_done ?_
  refine gn_sq ?_
  refine HW_block rfl ?_
  refine HW_loopK (ι := Nat × Ow) rfl (ks := [2, 3, 7, 8]) (.cons rfl (.cons rfl (.cons rfl (.cons rfl .nil)))) (fun x => [(9, .int .i64 x.1), (4, .slice x.2.p x.2.n x.2.cap)]) (fun x w => Mem w0 w No [(x.2.g, x.2.b)] ∧ Acc 67 2 x.2.p x.2.n x.2.cap (((Pl.targets (xs.map CmdV.cm)).take x.1).flatMap encE) x.2.g x.2.b ∧ x.1 ≤ xs.length ∧ x.2.n = x.1) (fun x => xs.length - x.1) (0, ⟨none, 0, 0, 0, .gap⟩) (⟨hm, ha_o, Nat.zero_le _, rfl⟩) ⟨rfl, rfl, trivial⟩ (fun x w hM => ?_)
  obtain ⟨hm, ha_o, hk, hn⟩ := hM
  refine HW_seq rfl ?_
  refine HW_text (.pure 0 .done) (by kernel_rfl) ?_
  refine rw_p rfl rfl (y_lt rfl rfl) ?_
  refine rw_done ?_
  refine gn_sq ?_
  refine HW_seq rfl ?_
  refine HW_cond rfl rfl (fun hc0 => ?_) (fun hc0 => ?_)
  ·
    simp only [decide_eq_true_eq] at hc0
    obtain ⟨c, hi⟩ : ∃ y_, xs[x.1]? = some y_ := ⟨_, List.getElem?_eq_getElem (by omega)⟩
    obtain ⟨qb, qo, rfl⟩ := hq.atI encC_len (by decide) hi
    have htg : (Pl.targets (xs.map CmdV.cm))[x.1]? = some (c.cm.to, Pl.clen c.cm) := by simp only [Pl.targets, List.map_map, List.getElem?_map, hi]; rfl
    refine HW_skip rfl ?_
    refine gn_sq ?_
    refine HW_seq rfl ?_
    refine HW_block rfl ?_
    refine HW_seq rfl ?_
    refine HW_text (.pure 0 (.pure 1 (.act 2 (.act 3 .done)))) (by kernel_rfl) ?_
    refine rw_p rfl rfl (y_index rfl rfl sl22 rfl (by omega) (by omega)) ?_
    refine rw_p rfl rfl (y_elA rfl ag34 (hq.ext0 hm.to).nt encC_len hi) ?_
    refine a_alloc rfl rfl z34 hm trivial fun m1 w hg_m1 hm hh => ?_
    refine a_store rfl rfl rfl rfl sz34 rfl hm 0 rfl rfl fun w hm => ?_
    refine rw_done ?_
    refine gn_sq ?_
    refine HW_text (.pure 0 (.pure 1 (.act 2 (.act 3 (.act 4 (.pure 5 .done)))))) (by kernel_rfl) ?_
    refine rw_p rfl rfl (y_move rfl) ?_
    refine rw_p rfl rfl (y_loadA (s := 5) (vs := [_, _, _, _, _]) rfl ag34 (hm.nt 0 rfl) rfl) ?_
    refine a_call rfl rfl rfl go34 (r4_target c.cm c.d.p c.d.cap _) fun v w hR => ?_
    obtain ⟨rfl, hE⟩ := hR
    refine ⟨trivial, ?_⟩
    replace hm := hm.ext hE
    refine a_buildSlice (l := [_, _]) rfl rfl sl65 z67 rfl rfl rfl rfl rfl rfl rfl hm trivial fun m2 w hg_m2 hm hh => ?_
    refine a_append rfl rfl rfl rfl rfl rfl sl65 sl65 z67 rfl rfl (Rd.row0 (hm.get (k := 0) rfl)) rfl ha_o hm 2 rfl (by omega) (by omega) fun p_o cap_o g_o b_o w ha_o hm => ?_
    refine rw_p rfl rfl (y_assign rfl) ?_
    refine rw_done ?_
    refine gn_bl ?_
    refine gn_sq ?_
    refine HW_text (.pure 0 (.pure 1 .done)) (by kernel_rfl) ?_
    refine rw_p rfl rfl (y_add rfl rfl (i64w (by omega) (by omega))) ?_
    refine rw_p rfl rfl (y_move rfl) ?_
    refine rw_done ?_
    refine next (x.1 + 1, ⟨p_o, _, cap_o, g_o, b_o⟩) (by simp only; omega) ⟨(hm.pick [2] rfl), ha_o.to ?_, by simp only; omega, by simp only; omega⟩ ⟨nx x.1, rfl, rfl, rfl, rfl, rfl, trivial⟩
    rw [List.take_add_one, htg]; simp [encE]
  ·
    simp only [decide_eq_false_iff_not] at hc0
    have hke : x.1 = xs.length := by omega
    have htl : (Pl.targets (xs.map CmdV.cm)).length = xs.length := by simp [Pl.targets]
    have hxn : x.2.n = (Pl.targets (xs.map CmdV.cm)).length := by omega
    rw [hke, ← htl, List.take_length] at ha_o
    refine HW_exit rfl ?_
    refine gx_sq (gx_lp ?_)
    refine gx_here ?_
    refine gn_sq ?_
    refine HW_seq rfl ?_
    refine HW_text (.pure 0 (.act 1 (.pure 2 (.pure 3 (.pure 4 (.pure 5 .done)))))) (by kernel_rfl) ?_
    refine rw_p rfl rfl (y_move rfl) ?_
    refine a_call rfl rfl rfl go35 (C.eqv (r1_totalW x.2.p x.2.cap (Pl.targets (xs.map CmdV.cm)) _ (ha_o.rd hm 0 rfl) (by omega)) (by rw [hxn])) fun v w hR => ?_
    obtain ⟨rfl, hE⟩ := hR
    refine ⟨trivial, ?_⟩
    replace hm := hm.ext hE
    refine rw_p rfl rfl (y_extract rfl rfl) ?_
    refine rw_p rfl rfl (y_extract rfl rfl) ?_
    refine rw_p rfl rfl (y_assign rfl) ?_
    refine rw_p rfl rfl (y_assign rfl) ?_
    refine rw_done ?_
    refine gn_sq ?_
    refine HW_ret rfl ?_
    refine toR (fin hret rfl (.tmp rfl (.tmp rfl .nil)) .more ?_)
    exact ⟨rfl, hm.to⟩

theorem p_newN (s : Int) (q : Option Addr) (cq : Nat) (xs : List CmdV) (w0 : World) (hq : Rd w0 q (xs.flatMap encC)) (hok : ∀ c ∈ xs, Pl.ccheck c.cm = 0 ∧ c.d.ok w0 ∧ c.d.bs.length ≤ 140737488355328) (hs : Pl.I64 s ∧ 1 ≤ s) (hfw : Pl.fewC s (xs.map CmdV.cm)) (hmx : xs.length ≤ 1000000 ∧ Pl.first s (xs.map CmdV.cm) (xs.map CmdV.cm).length ≤ 4611686018427387903) (hT : (Pl.total 0 (Pl.targets (xs.map CmdV.cm))).isSome = false) : C Try.prog 11 [.int .i64 s, .slice q xs.length cq] w0 fun v w' => v = .pointer none ∧ Ext No w0 w' :=
  (p_new s q cq xs w0 hq hok hs hfw hmx).mono fun v w' h => by
    rcases h with ⟨h1, _, h3⟩ | ⟨_, _, _, _, _, _, _, _, _, _, _, _, _, _, _, _, h, _⟩
    · exact ⟨h1, h3⟩
    · rw [hT] at h; cases h

theorem p_newS (s : Int) (q : Option Addr) (cq : Nat) (xs : List CmdV) (w0 : World) (hq : Rd w0 q (xs.flatMap encC)) (hok : ∀ c ∈ xs, Pl.ccheck c.cm = 0 ∧ c.d.ok w0 ∧ c.d.bs.length ≤ 140737488355328) (hs : Pl.I64 s ∧ 1 ≤ s) (hfw : Pl.fewC s (xs.map CmdV.cm)) (hmx : xs.length ≤ 1000000 ∧ Pl.first s (xs.map CmdV.cm) (xs.map CmdV.cm).length ≤ 4611686018427387903) (hT : (Pl.total 0 (Pl.targets (xs.map CmdV.cm))).isSome = true) : C Try.prog 11 [.int .i64 s, .slice q xs.length cq] w0 fun v w' => ∃ (m : Nat) (pf pb pl : Option Addr) (cf cb cl gf gb gl : Nat) (bf bb bl : Blk) (ys : List CmdV) (B : List (Nat × Blk)), v = .pointer (some ⟨m, 0, none⟩) ∧ Acc 3 1 pf (firstL s (ys.map CmdV.cm)).length cf ((firstL s (ys.map CmdV.cm)).flatMap encI) gf bf ∧ Acc 3 1 pb (firstL s (ys.map CmdV.cm)).length cb ((beforeL (ys.map CmdV.cm)).flatMap encI) gb bb ∧ Acc 34 5 pl ys.length cl (ys.flatMap encC) gl bl ∧ (ys.map CmdV.cm) = (xs.map CmdV.cm) ∧ (∀ y ∈ ys, Held B 5 y.d) ∧ Mem w0 w' No ((m, .row 64 (plV s pf (firstL s (ys.map CmdV.cm)).length cf pb cb pl ys.length cl)) :: (gf, bf) :: (gb, bb) :: (gl, bl) :: B) :=
  (p_new s q cq xs w0 hq hok hs hfw hmx).mono fun v w' h => by
    rcases h with ⟨_, h, _⟩ | ⟨m, pf, pb, pl, cf, cb, cl, gf, gb, gl, bf, bb, bl, ys, B, h1, _, h3, h4, h5, h6, h7, h8⟩
    · rw [hT] at h; cases h
    · exact ⟨m, pf, pb, pl, cf, cb, cl, gf, gb, gl, bf, bb, bl, ys, B, h1, by rw [h6]; exact h3, by rw [h6]; exact h4, h5, h6, h7, by rw [h6]; exact h8⟩

theorem p_atG (i : Int) (m : Nat) (s : Int) (pf : Option Addr) (cf : Nat) (pb : Option Addr) (cb : Nat) (pl : Option Addr) (cl : Nat) (xs : List CmdV) (w0 : World) (hP : w0.heap[m]? = some (Blk.row 64 (plV s pf (firstL s (xs.map CmdV.cm)).length cf pb cb pl xs.length cl)).toObj) (hF : Rd w0 pf ((firstL s (xs.map CmdV.cm)).flatMap encI)) (hB : Rd w0 pb ((beforeL (xs.map CmdV.cm)).flatMap encI)) (hL : Rd w0 pl (xs.flatMap encC)) (hfw : Pl.fewC s (xs.map CmdV.cm)) (hmx : (xs.map CmdV.cm).length ≤ 1000000 ∧ Pl.first s (xs.map CmdV.cm) (xs.map CmdV.cm).length ≤ 4611686018427387903) (hD : ∀ x ∈ xs, x.d.okN w0 ∧ x.d.bs.length ≤ 140737488355328) (hs : Pl.I64 s ∧ 1 ≤ s) (hi64 : Pl.I64 i) (hg : 0 ≤ i ∧ i < Pl.first s (xs.map CmdV.cm) (xs.map CmdV.cm).length) : C Try.prog 15 [.pointer (some ⟨m, 0, none⟩), .int .i64 i] w0 fun v w' => ∃ (k : Nat) (d : Pl.Cm) (q : Option Addr) (n cp g : Nat) (bb : Blk), v = .tuple ⟨[.agg ⟨.int .i64 i :: .int .i64 (k : Int) :: cmV d q n cp⟩, .bool true]⟩ ∧ Acc 5 1 q n cp (d.bs.flatMap encB) g bb ∧ (Pl.steps s 0 (xs.map CmdV.cm))[i.toNat]? = some (k, d) ∧ Mem w0 w' No [(g, bb)] :=
  (p_at i m s pf cf pb cb pl cl xs w0 hP hF hB hL hfw hmx hD hs hi64).mono fun v w' h => by
    obtain ⟨ix, k, d, q, n, cp, g, bb, rfl, h1, h2, h3, _⟩ := h
    obtain ⟨rfl, h5, h6⟩ := h3 hg
    exact ⟨k.toNat, d, q, n, cp, g, bb, by rw [decide_eq_true hg, Int.toNat_of_nonneg h5], h1, h6, h2⟩

theorem p_atB (i : Int) (m : Nat) (s : Int) (pf : Option Addr) (cf : Nat) (pb : Option Addr) (cb : Nat) (pl : Option Addr) (cl : Nat) (xs : List CmdV) (w0 : World) (hP : w0.heap[m]? = some (Blk.row 64 (plV s pf (firstL s (xs.map CmdV.cm)).length cf pb cb pl xs.length cl)).toObj) (hF : Rd w0 pf ((firstL s (xs.map CmdV.cm)).flatMap encI)) (hB : Rd w0 pb ((beforeL (xs.map CmdV.cm)).flatMap encI)) (hL : Rd w0 pl (xs.flatMap encC)) (hfw : Pl.fewC s (xs.map CmdV.cm)) (hmx : (xs.map CmdV.cm).length ≤ 1000000 ∧ Pl.first s (xs.map CmdV.cm) (xs.map CmdV.cm).length ≤ 4611686018427387903) (hD : ∀ x ∈ xs, x.d.okN w0 ∧ x.d.bs.length ≤ 140737488355328) (hs : Pl.I64 s ∧ 1 ≤ s) (hi64 : Pl.I64 i) (hg : ¬ (0 ≤ i ∧ i < Pl.first s (xs.map CmdV.cm) (xs.map CmdV.cm).length)) : C Try.prog 15 [.pointer (some ⟨m, 0, none⟩), .int .i64 i] w0 fun v w' => ∃ (q : Option Addr) (n cp g : Nat) (bb : Blk), v = .tuple ⟨[.agg ⟨.int .i64 0 :: .int .i64 0 :: cmV Pl.cm0 q n cp⟩, .bool false]⟩ ∧ Acc 5 1 q n cp (Pl.cm0.bs.flatMap encB) g bb ∧ Mem w0 w' No [(g, bb)] :=
  (p_at i m s pf cf pb cb pl cl xs w0 hP hF hB hL hfw hmx hD hs hi64).mono fun v w' h => by
    obtain ⟨ix, k, d, q, n, cp, g, bb, rfl, h1, h2, _, h4⟩ := h
    obtain ⟨rfl, rfl, rfl⟩ := h4 hg
    exact ⟨q, n, cp, g, bb, by rw [decide_eq_false hg], h1, h2⟩

end Go.Proofs.Ytpandemmaoeioaa
