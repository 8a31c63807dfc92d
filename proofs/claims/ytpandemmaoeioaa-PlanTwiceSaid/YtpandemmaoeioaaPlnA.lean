/- Contracts of functions of the program: what each returns. Conditions: the hypotheses of each theorem. -/
import Derived.Test.YtpandemmaoeioaaExeB
import Derived.Test.YtpandemmaoeioaaCxS
set_option linter.unusedVariables false
set_option linter.unusedSimpArgs false
namespace Go.Proofs.Ytpandemmaoeioaa
open Go Go.Cx

theorem is3 : (Try.prog.underlying 3).isSome = true := by kernel_rfl
theorem is98 : (Try.prog.underlying 98).isSome = true := by kernel_rfl
theorem it98 : intO Try.prog 98 = some .u64 := by kernel_rfl
theorem fo62_1 : fldO Try.prog 62 1 = some 1 := by kernel_rfl
theorem sc60 : scal Try.prog 60 = true := by kernel_rfl
theorem sl60 : slcO Try.prog 60 = some (3, 1, 8) := by kernel_rfl
theorem go53 : isGo Try.prog 53 = true := by kernel_rfl
theorem go54 : isGo Try.prog 54 = true := by kernel_rfl
theorem ag62 : aggS Try.prog 62 = some 3 := by kernel_rfl
theorem fo64_0 : fldO Try.prog 64 0 = some 0 := by kernel_rfl
theorem go37 : isGo Try.prog 37 = true := by kernel_rfl
theorem pb25 : ptrB Try.prog 25 = true := by kernel_rfl
theorem ag36 : aggS Try.prog 36 = some 7 := by kernel_rfl
theorem fo62_0 : fldO Try.prog 62 0 = some 0 := by kernel_rfl
theorem fo64_1 : fldO Try.prog 64 1 = some 3 := by kernel_rfl
theorem ft36 : fldT Try.prog 36 = some [(0, 1), (1, 1), (2, 5)] := by kernel_rfl
theorem go14 : isGo Try.prog 14 = true := by kernel_rfl
theorem go38 : isGo Try.prog 38 = true := by kernel_rfl
theorem go39 : isGo Try.prog 39 = true := by kernel_rfl
theorem sc22 : scal Try.prog 22 = true := by kernel_rfl
theorem sz36 : szO Try.prog 36 = some 7 := by kernel_rfl
theorem z36 : zer Try.prog 36 = some [.int .i64 0, .int .i64 0, .int .i64 0, .int .i64 0, .int .i64 0, .int .i64 0, .slice none 0 0] := by kernel_rfl
theorem fo40_1 : fldO Try.prog 40 1 = some 1 := by kernel_rfl
theorem sl29 : slcO Try.prog 29 = some (40, 7, 72) := by kernel_rfl
theorem fo40_0 : fldO Try.prog 40 0 = some 0 := by kernel_rfl
theorem fo40_2 : fldO Try.prog 40 2 = some 2 := by kernel_rfl
theorem go29 : isGo Try.prog 29 = true := by kernel_rfl
theorem fo36_2 : fldO Try.prog 36 2 = some 2 := by kernel_rfl
theorem fo62_2 : fldO Try.prog 62 2 = some 2 := by kernel_rfl
theorem go15 : isGo Try.prog 15 = true := by kernel_rfl
theorem go27 : isGo Try.prog 27 = true := by kernel_rfl
theorem ft40 : fldT Try.prog 40 = some [(0, 1), (1, 1), (2, 5)] := by kernel_rfl
theorem go36 : isGo Try.prog 36 = true := by kernel_rfl
theorem z40 : zer Try.prog 40 = some [.int .i64 0, .int .i64 0, .int .i64 0, .int .i64 0, .int .i64 0, .int .i64 0, .slice none 0 0] := by kernel_rfl

theorem search (n : Nat) (fi : FuncId) (l2 : List Value) (pr : Nat → Bool) (w0 : World) (hn : n ≤ 4611686018427387903) (hg : isGo Try.prog fi = true) (hf : ∀ (k : Nat) w1, k < n → Ext No w0 w1 → C Try.prog fi (.int .i64 k :: l2) w1 fun v w2 => v = .bool (pr k) ∧ Ext No w1 w2) (hmono : ∀ j k, j ≤ k → pr j = true → pr k = true) : C Try.prog 53 [.int .i64 n, .func (.func fi) #[] ⟨l2⟩] w0 fun v w' => ∃ r : Nat, v = .int .i64 r ∧ r ≤ n ∧ (∀ j, j < r → pr j = false) ∧ (r < n → pr r = true) ∧ Ext No w0 w' := by
  refine C_of Try.func53 rfl rfl rfl fun κ hret hnorm => ?_
  have hm := Mem.start w0
  refine HW_seq rfl ?_
  refine HW_text (.pure 0 .done) (by kernel_rfl) ?_
  refine rw_p rfl rfl (y_assign rfl) ?_
  refine rw_done ?_
  refine gn_sq ?_
  refine HW_seq rfl ?_
  refine HW_text (.pure 0 (.pure 1 (.pure 2 .done))) (by kernel_rfl) ?_
  refine rw_p rfl rfl (y_move rfl) ?_
  refine rw_p rfl rfl (y_assign rfl) ?_
  refine rw_p rfl rfl (y_assign rfl) ?_
  refine rw_done ?_
  refine gn_sq ?_
  refine HW_seq rfl ?_
  refine HW_block rfl ?_
  refine HW_loopK (ι := Nat × Nat) rfl (ks := [1, 4]) (.cons rfl (.cons rfl .nil)) (fun x => [(5, .int .i64 x.1), (6, .int .i64 x.2)]) (fun x w => Mem w0 w No [] ∧ x.1 ≤ x.2 ∧ x.2 ≤ n ∧ (∀ j, j < x.1 → pr j = false) ∧ (x.2 < n → pr x.2 = true)) (fun x => x.2 - x.1) (0, n) (⟨hm, Nat.zero_le _, Nat.le_refl _, fun _ h => absurd h (Nat.not_lt_zero _), fun h => absurd h (Nat.lt_irrefl _)⟩) ⟨rfl, rfl, trivial⟩ (fun x w hM => ?_)
  obtain ⟨hm, hij, hjn, hlo, hhi⟩ := hM
  refine HW_seq rfl ?_
  refine HW_seq rfl ?_
  refine HW_text (.pure 0 (.pure 1 (.pure 2 .done))) (by kernel_rfl) ?_
  refine rw_p rfl rfl (y_move rfl) ?_
  refine rw_p rfl rfl (y_move rfl) ?_
  refine rw_p rfl rfl (y_lt rfl rfl) ?_
  refine rw_done ?_
  refine gn_sq ?_
  refine HW_cond rfl rfl (fun hc0 => ?_) (fun hc0 => ?_)
  ·
    simp only [decide_eq_true_eq] at hc0
    have hmid : x.1 ≤ (x.1 + x.2) / 2 ∧ (x.1 + x.2) / 2 < x.2 := by omega
    obtain ⟨h, hh2⟩ : ∃ h, (x.1 + x.2) / 2 = h := ⟨_, rfl⟩
    rw [hh2] at hmid
    refine HW_skip rfl ?_
    refine gn_sq ?_
    refine HW_block rfl ?_
    refine HW_seq rfl ?_
    refine HW_text (.pure 0 (.pure 1 (.pure 2 (.pure 3 (.pure 4 (.pure 5 (.pure 6 .done))))))) (by kernel_rfl) ?_
    refine rw_p rfl rfl (y_move rfl) ?_
    refine rw_p rfl rfl (y_move rfl) ?_
    refine rw_p rfl rfl (y_add rfl rfl (i64w (by omega) (by omega))) ?_
    refine rw_p rfl rfl (y_conv rfl is3 it98 (u64w (by omega) (by omega))) ?_
    refine rw_p rfl rfl (y_shr rfl rfl (by omega) ((half64 (by omega)).trans (by rw [hh2]))) ?_
    refine rw_p rfl rfl (y_conv rfl is98 it3 (i64w (by omega) (by omega))) ?_
    refine rw_p rfl rfl (y_assign rfl) ?_
    refine rw_done ?_
    refine gn_sq ?_
    refine HW_seq rfl ?_
    refine HW_text (.pure 0 (.pure 1 (.act 2 (.pure 3 .done)))) (by kernel_rfl) ?_
    refine rw_p rfl rfl (y_move rfl) ?_
    refine rw_p rfl rfl (y_move rfl) ?_
    refine a_callV rfl rfl rfl rfl hg (hf h _ (by omega) hm.to) fun v w hR => ?_
    obtain ⟨rfl, hE⟩ := hR
    refine ⟨trivial, ?_⟩
    replace hm := hm.ext hE
    refine rw_p rfl rfl (y_not rfl) ?_
    refine rw_done ?_
    refine gn_sq ?_
    refine HW_cond rfl rfl (fun hc1 => ?_) (fun hc1 => ?_)
    ·
      simp only [Bool.not_eq_true'] at hc1
      refine HW_text (.pure 0 (.pure 1 (.pure 2 .done))) (by kernel_rfl) ?_
      refine rw_p rfl rfl (y_move rfl) ?_
      refine rw_p rfl rfl (y_add rfl rfl (i64w (by omega) (by omega))) ?_
      refine rw_p rfl rfl (y_assign rfl) ?_
      refine rw_done ?_
      refine gn_bl ?_
      first | exact next (h + 1, x.2) (by simp only; omega) ⟨hm, by simp only; omega, hjn, fun j hj => Bool.eq_false_iff.2 fun ht => by (rw [hmono j h (by simp only at hj; omega) ht] at hc1; cases hc1), hhi⟩ ⟨nx h, rfl, rfl, rfl, trivial⟩ | exact next (x.1, h) (by simp only; omega) ⟨hm, by simp only; omega, by simp only; omega, hlo, fun _ => hc1⟩ ⟨rfl, rfl, rfl, rfl, trivial⟩
    ·
      simp only [Bool.not_eq_false'] at hc1
      refine HW_text (.pure 0 (.pure 1 .done)) (by kernel_rfl) ?_
      refine rw_p rfl rfl (y_move rfl) ?_
      refine rw_p rfl rfl (y_assign rfl) ?_
      refine rw_done ?_
      refine gn_bl ?_
      first | exact next (h + 1, x.2) (by simp only; omega) ⟨hm, by simp only; omega, hjn, fun j hj => Bool.eq_false_iff.2 fun ht => by (rw [hmono j h (by simp only at hj; omega) ht] at hc1; cases hc1), hhi⟩ ⟨nx h, rfl, rfl, rfl, trivial⟩ | exact next (x.1, h) (by simp only; omega) ⟨hm, by simp only; omega, by simp only; omega, hlo, fun _ => hc1⟩ ⟨rfl, rfl, rfl, rfl, trivial⟩
  ·
    simp only [decide_eq_false_iff_not] at hc0
    refine HW_exit rfl ?_
    refine gx_sq (gx_lp ?_)
    refine gx_here ?_
    refine gn_sq ?_
    refine HW_seq rfl ?_
    refine HW_text (.pure 0 (.pure 1 .done)) (by kernel_rfl) ?_
    refine rw_p rfl rfl (y_move rfl) ?_
    refine rw_p rfl rfl (y_assign rfl) ?_
    refine rw_done ?_
    refine gn_sq ?_
    refine HW_ret rfl ?_
    refine toR (fin hret rfl (.tmp rfl .nil) .one ?_)
    exact ⟨x.1, rfl, by omega, hlo, fun h => by rw [show x.1 = x.2 by omega]; exact hhi (by omega), hm.to⟩

theorem find1 (k : Nat) (i : Int) (m1 m2 : Nat) (s : Int) (pf : Option Addr) (cf : Nat) (pb : Option Addr) (cb : Nat) (cs : List Pl.Cm) (w0 : World) (hF : Rd w0 pf ((firstL s cs).flatMap encI)) (hfw : Pl.fewC s cs) (hmx : cs.length ≤ 1000000 ∧ Pl.first s cs cs.length ≤ 4611686018427387903) (hk : k < cs.length) (h1 : w0.heap[m1]? = some (Blk.row 62 (nmV s pf (firstL s cs).length cf pb cb)).toObj) (h2 : w0.heap[m2]? = some (Blk.row 3 [.int .i64 i]).toObj) : C Try.prog 54 [.int .i64 k, .pointer (some ⟨m1, 0, none⟩), .pointer (some ⟨m2, 0, none⟩)] w0 fun v w' => v = .bool (decide (i < Pl.first s cs (k + 1))) ∧ Ext No w0 w' := by
  have hfl := firstL_len s cs
  have hi := firstL_get (s := s) (cs := cs) (k := k + 1) (by omega)
  obtain ⟨qb, qo, rfl⟩ := hF.atI encI_len (by decide) hi
  refine C_of Try.func54 rfl rfl rfl fun κ hret hnorm => ?_
  have hm := Mem.start w0
  refine HW_seq rfl ?_
  refine HW_text (.pure 0 .done) (by kernel_rfl) ?_
  refine rw_p rfl rfl (y_assign rfl) ?_
  refine rw_done ?_
  refine gn_sq ?_
  refine HW_seq rfl ?_
  refine HW_draw (.pure 0 (.pure 1 (.pure 2 (.pure 3 (.pure 4 (.pure 5 (.pure 6 (.pure 7 (.pure 8 .done))))))))) No mix (by kernel_rfl) hm fun w hw hm0 hh => ?_
  have hm := hm0
  refine rw_p rfl rfl (y_fieldAddr rfl fo62_1) ?_
  refine rw_p rfl rfl (y_load rfl sc60 (fun u hu => ((hm0.to.trans hu).same _ (Array.getElem?_eq_some_iff.1 h1).1 id).trans h1) rfl) ?_
  refine rw_p rfl rfl (y_move rfl) ?_
  refine rw_p rfl rfl (y_add rfl rfl (i64w (by omega) (by omega))) ?_
  refine rw_p rfl rfl (y_index rfl rfl sl60 rfl (by omega) (by omega)) ?_
  refine rw_p rfl rfl (y_el1 rfl sc3 (hF.ext0 hm0.to).nd encI_len hi rfl) ?_
  refine rw_p rfl rfl (y_load rfl sc3 (fun u hu => ((hm0.to.trans hu).same _ (Array.getElem?_eq_some_iff.1 h2).1 id).trans h2) rfl) ?_
  refine rw_p rfl rfl (y_gt rfl rfl) ?_
  refine rw_p rfl rfl (y_assign rfl) ?_
  refine rw_done ?_
  refine gn_sq ?_
  refine HW_ret rfl ?_
  refine toR (fin hret rfl (.tmp rfl .nil) .one ?_)
  exact ⟨by simp, hm.to⟩

theorem nm_find (i : Int) (s : Int) (pf : Option Addr) (cf : Nat) (pb : Option Addr) (cb : Nat) (cs : List Pl.Cm) (w0 : World) (hF : Rd w0 pf ((firstL s cs).flatMap encI)) (hfw : Pl.fewC s cs) (hmx : cs.length ≤ 1000000 ∧ Pl.first s cs cs.length ≤ 4611686018427387903) (h0 : 0 ≤ i) (h1 : i < Pl.first s cs cs.length) : C Try.prog 38 [.agg ⟨nmV s pf (firstL s cs).length cf pb cb⟩, .int .i64 i] w0 fun v w' => ∃ k : Nat, v = .int .i64 k ∧ (k < cs.length ∧ Pl.first s cs k ≤ i ∧ i < Pl.first s cs (k + 1)) ∧ Ext No w0 w' := by
  have hfl := firstL_len s cs
  refine C_of Try.func38 rfl rfl rfl fun κ hret hnorm => ?_
  have hm := Mem.start w0
  refine HW_seq rfl ?_
  refine HW_text (.act 0 (.act 1 (.pure 2 .done))) (by kernel_rfl) ?_
  refine a_box rfl rfl rfl rfl hm trivial fun m1 w hg_m1 hm hh => ?_
  refine a_box rfl rfl rfl rfl hm trivial fun m2 w hg_m2 hm hh => ?_
  refine rw_p rfl rfl (y_assign rfl) ?_
  refine rw_done ?_
  refine gn_sq ?_
  refine HW_seq rfl ?_
  refine HW_text (.pure 0 (.pure 1 (.pure 2 (.pure 3 (.pure 4 (.act 5 (.pure 6 .done))))))) (by kernel_rfl) ?_
  refine rw_p rfl rfl (y_fieldAddr rfl fo62_1) ?_
  refine rw_p rfl rfl (y_load rfl sc60 (hm.nt 1 rfl) rfl) ?_
  refine rw_p rfl rfl (y_len rfl rfl sl60) ?_
  refine rw_p rfl rfl (y_sub rfl rfl ((i64w (by omega) (by omega)).trans (by omega : (((firstL s cs).length : Nat) : Int) - 1 = (cs.length : Nat)))) ?_
  refine rw_p rfl rfl (y_func rfl rfl) ?_
  refine a_call rfl rfl rfl go53 (search cs.length _ _ (fun k => decide (i < Pl.first s cs (k + 1))) _ (by omega) go54 (fun k w1 hk hx => find1 k i m1 m2 s pf cf pb cb cs w1 ((hF.ext0 hm.to).ext0 hx) hfw hmx hk ((hx.same _ (hm.lt (p := (m1, _)) (blk_mem (L := [_, _]) (k := 1) rfl)) id).trans (hm.get (k := 1) rfl)) ((hx.same _ (hm.lt (p := (m2, _)) (blk_mem (L := [_, _]) (k := 0) rfl)) id).trans (hm.get (k := 0) rfl))) (find_mono hfw i)) fun v w hR => ?_
  obtain ⟨r_, rfl, hr1, hr2, hr3, hE⟩ := hR
  refine ⟨trivial, ?_⟩
  replace hm := hm.ext hE
  refine rw_p rfl rfl (y_assign rfl) ?_
  refine rw_done ?_
  refine gn_sq ?_
  refine HW_ret rfl ?_
  refine toR (fin hret rfl (.tmp rfl .nil) .one ?_)
  exact ⟨r_, rfl, find_post h0 h1 hr1 hr2 hr3, hm.to⟩

theorem nm_steps (s : Int) (pf : Option Addr) (cf : Nat) (pb : Option Addr) (cb : Nat) (cs : List Pl.Cm) (w0 : World) (hF : Rd w0 pf ((firstL s cs).flatMap encI)) (hfw : Pl.fewC s cs) (hmx : cs.length ≤ 1000000 ∧ Pl.first s cs cs.length ≤ 4611686018427387903) : C Try.prog 37 [.agg ⟨nmV s pf (firstL s cs).length cf pb cb⟩] w0 fun v w' => v = .int .i64 (Pl.first s cs cs.length) ∧ Ext No w0 w' := by
  have hfl := firstL_len s cs
  have hi := firstL_get (s := s) (cs := cs) (k := cs.length) (by omega)
  obtain ⟨qb, qo, rfl⟩ := hF.atI encI_len (by decide) hi
  refine C_of Try.func37 rfl rfl rfl fun κ hret hnorm => ?_
  have hm := Mem.start w0
  refine HW_seq rfl ?_
  refine HW_text (.act 0 (.pure 1 .done)) (by kernel_rfl) ?_
  refine a_box rfl rfl rfl rfl hm trivial fun m1 w hg_m1 hm hh => ?_
  refine rw_p rfl rfl (y_assign rfl) ?_
  refine rw_done ?_
  refine gn_sq ?_
  refine HW_seq rfl ?_
  refine HW_text (.pure 0 (.pure 1 (.pure 2 (.pure 3 (.pure 4 (.pure 5 (.pure 6 (.pure 7 (.pure 8 .done))))))))) (by kernel_rfl) ?_
  refine rw_p rfl rfl (y_fieldAddr rfl fo62_1) ?_
  refine rw_p rfl rfl (y_load rfl sc60 (hm.nt 0 rfl) rfl) ?_
  refine rw_p rfl rfl (y_fieldAddr rfl fo62_1) ?_
  refine rw_p rfl rfl (y_load rfl sc60 (hm.nt 0 rfl) rfl) ?_
  refine rw_p rfl rfl (y_len rfl rfl sl60) ?_
  refine rw_p rfl rfl (y_sub rfl rfl ((i64w (by omega) (by omega)).trans (by omega : (((firstL s cs).length : Nat) : Int) - 1 = (cs.length : Nat)))) ?_
  refine rw_p rfl rfl (y_index rfl rfl sl60 rfl (by omega) (by omega)) ?_
  refine rw_p rfl rfl (y_el1 rfl sc3 (hF.ext0 hm.to).nt encI_len hi rfl) ?_
  refine rw_p rfl rfl (y_assign rfl) ?_
  refine rw_done ?_
  refine gn_sq ?_
  refine HW_ret rfl ?_
  refine toR (fin hret rfl (.tmp rfl .nil) .one ?_)
  exact ⟨rfl, hm.to⟩

theorem p_len (m : Nat) (s : Int) (pf : Option Addr) (cf : Nat) (pb : Option Addr) (cb : Nat) (pl : Option Addr) (cl : Nat) (xs : List CmdV) (w0 : World) (hP : w0.heap[m]? = some (Blk.row 64 (plV s pf (firstL s (xs.map CmdV.cm)).length cf pb cb pl xs.length cl)).toObj) (hF : Rd w0 pf ((firstL s (xs.map CmdV.cm)).flatMap encI)) (hB : Rd w0 pb ((beforeL (xs.map CmdV.cm)).flatMap encI)) (hL : Rd w0 pl (xs.flatMap encC)) (hfw : Pl.fewC s (xs.map CmdV.cm)) (hmx : (xs.map CmdV.cm).length ≤ 1000000 ∧ Pl.first s (xs.map CmdV.cm) (xs.map CmdV.cm).length ≤ 4611686018427387903) : C Try.prog 14 [.pointer (some ⟨m, 0, none⟩)] w0 fun v w' => v = .int .i64 (Pl.first s (xs.map CmdV.cm) (xs.map CmdV.cm).length) ∧ Ext No w0 w' := by
  refine C_of Try.func14 rfl rfl rfl fun κ hret hnorm => ?_
  have hm := Mem.start w0
  refine HW_seq rfl ?_
  refine HW_text (.pure 0 .done) (by kernel_rfl) ?_
  refine rw_p rfl rfl (y_assign rfl) ?_
  refine rw_done ?_
  refine gn_sq ?_
  refine HW_seq rfl ?_
  refine HW_seq rfl ?_
  refine HW_text (.pure 0 (.pure 1 .done)) (by kernel_rfl) ?_
  refine rw_p rfl rfl (y_move rfl) ?_
  refine rw_p rfl rfl (y_pnil rfl rfl pb25) ?_
  refine rw_done ?_
  refine gn_sq ?_
  refine HW_condF rfl rfl rfl ?_
  refine HW_skip rfl ?_
  refine gn_sq ?_
  refine HW_seq rfl ?_
  refine HW_text (.pure 0 (.pure 1 (.pure 2 (.pure 3 (.act 4 (.pure 5 .done)))))) (by kernel_rfl) ?_
  refine rw_p rfl rfl (y_move rfl) ?_
  refine rw_p rfl rfl (y_nil rfl) ?_
  refine rw_p rfl rfl (y_fieldAddr rfl fo64_0) ?_
  refine rw_p rfl rfl (y_loadA (s := 3) (vs := [_, _, _]) rfl ag62 (nowT ((hm.to.same _ (Array.getElem?_eq_some_iff.1 hP).1 id).trans hP)) rfl) ?_
  refine a_call rfl rfl rfl go37 (nm_steps s pf cf pb cb (xs.map CmdV.cm) _ (hF.ext0 hm.to) hfw hmx) fun v w hR => ?_
  obtain ⟨rfl, hE⟩ := hR
  refine ⟨trivial, ?_⟩
  replace hm := hm.ext hE
  refine rw_p rfl rfl (y_assign rfl) ?_
  refine rw_done ?_
  refine gn_sq ?_
  refine HW_ret rfl ?_
  refine toR (fin hret rfl (.tmp rfl .nil) .one ?_)
  exact ⟨rfl, hm.to⟩

set_option maxHeartbeats 800000 in
theorem p_at (i : Int) (m : Nat) (s : Int) (pf : Option Addr) (cf : Nat) (pb : Option Addr) (cb : Nat) (pl : Option Addr) (cl : Nat) (xs : List CmdV) (w0 : World) (hP : w0.heap[m]? = some (Blk.row 64 (plV s pf (firstL s (xs.map CmdV.cm)).length cf pb cb pl xs.length cl)).toObj) (hF : Rd w0 pf ((firstL s (xs.map CmdV.cm)).flatMap encI)) (hB : Rd w0 pb ((beforeL (xs.map CmdV.cm)).flatMap encI)) (hL : Rd w0 pl (xs.flatMap encC)) (hfw : Pl.fewC s (xs.map CmdV.cm)) (hmx : (xs.map CmdV.cm).length ≤ 1000000 ∧ Pl.first s (xs.map CmdV.cm) (xs.map CmdV.cm).length ≤ 4611686018427387903) (hD : ∀ x ∈ xs, x.d.okN w0 ∧ x.d.bs.length ≤ 140737488355328) (hs : Pl.I64 s ∧ 1 ≤ s) (hi64 : Pl.I64 i) : C Try.prog 15 [.pointer (some ⟨m, 0, none⟩), .int .i64 i] w0 fun v w' => ∃ (ix k : Int) (d : Pl.Cm) (q : Option Addr) (n cp g : Nat) (bb : Blk), v = .tuple ⟨[.agg ⟨.int .i64 ix :: .int .i64 k :: cmV d q n cp⟩, .bool (decide (0 ≤ i ∧ i < Pl.first s (xs.map CmdV.cm) (xs.map CmdV.cm).length))]⟩ ∧ Acc 5 1 q n cp (d.bs.flatMap encB) g bb ∧ Mem w0 w' No [(g, bb)] ∧ (0 ≤ i ∧ i < Pl.first s (xs.map CmdV.cm) (xs.map CmdV.cm).length → ix = i ∧ 0 ≤ k ∧ (Pl.steps s 0 (xs.map CmdV.cm))[i.toNat]? = some (k.toNat, d)) ∧ (¬ (0 ≤ i ∧ i < Pl.first s (xs.map CmdV.cm) (xs.map CmdV.cm).length) → ix = 0 ∧ k = 0 ∧ d = Pl.cm0) := by
  refine C_of Try.func15 rfl rfl rfl fun κ hret hnorm => ?_
  have hm := Mem.start w0
  refine HW_seq rfl ?_
  refine HW_text (.act 0 (.pure 1 .done)) (by kernel_rfl) ?_
  refine a_alloc rfl rfl z36 hm trivial fun m1 w hg_m1 hm hh => ?_
  refine rw_p rfl rfl (y_assign rfl) ?_
  refine rw_done ?_
  refine gn_sq ?_
  refine HW_seq rfl ?_
  refine HW_seq rfl ?_
  by_cases h0 : i < 0
  ·
    have hbad : ¬ (0 ≤ i ∧ i < Pl.first s (xs.map CmdV.cm) (xs.map CmdV.cm).length) := by omega
    refine HW_text (.pure 0 (.pure 1 (.pure 2 (.pure 3 (.pure 4 (.act 5 (.pure 6 (.pure 7 .done)))))))) (by kernel_rfl) ?_
    refine rw_p rfl rfl (y_move rfl) ?_
    refine rw_p rfl rfl (y_lt rfl rfl) ?_
    refine rw_p rfl rfl (y_as (c := true) (y_move rfl) (decide_eq_true h0)) ?_
    refine rw_gf rfl rfl (by decide) rfl ?_
    refine rw_gf rfl rfl (by decide) rfl ?_
    refine a_gf rfl rfl (by decide) rfl trivial ?_
    refine rw_gf rfl rfl (by decide) rfl ?_
    refine rw_p rfl rfl (y_pickT rfl rfl) ?_
    refine rw_done ?_
    refine gn_sq ?_
    refine HW_condT rfl rfl rfl ?_
    refine HW_seq rfl ?_
    refine HW_text (.pure 0 (.act 1 (.pure 2 .done))) (by kernel_rfl) ?_
    refine rw_p rfl rfl (y_build (cs := [_, _, _, _, _, _, _]) z36 ft36 rfl rfl rfl rfl rfl) ?_
    refine a_store rfl rfl rfl rfl sz36 rfl hm 0 rfl rfl fun w hm => ?_
    refine rw_p rfl rfl (y_assign rfl) ?_
    refine rw_done ?_
    refine gn_sq ?_
    refine HW_ret rfl ?_
    refine gr_sq ?_
    refine toR (fin hret rfl (.cell rfl (run_loadVar_a (vs := [_, _, _, _, _, _, _]) ag36 (hm.get (k := 0) rfl) rfl) (.tmp rfl .nil)) .more ?_)
    exact ⟨0, 0, Pl.cm0, none, 0, 0, 0, .gap, by rw [decide_eq_false hbad]; rfl, .nil _ _ _ _, (hm.drop (List.nil_sublist _)).gapIn, fun h => absurd h hbad, fun _ => ⟨rfl, rfl, rfl⟩⟩
  ·
    refine HW_text (.pure 0 (.pure 1 (.pure 2 (.pure 3 (.pure 4 (.act 5 (.pure 6 (.pure 7 .done)))))))) (by kernel_rfl) ?_
    refine rw_p rfl rfl (y_move rfl) ?_
    refine rw_p rfl rfl (y_lt rfl rfl) ?_
    refine rw_p rfl rfl (y_as (c := false) (y_move rfl) (decide_eq_false h0)) ?_
    refine rw_p rfl rfl (y_move rfl) ?_
    refine rw_p rfl rfl (y_move rfl) ?_
    refine a_call rfl rfl rfl go14 (p_len m s pf cf pb cb pl cl xs _ ((hm.to.same _ (Array.getElem?_eq_some_iff.1 hP).1 id).trans hP) (hF.ext0 hm.to) (hB.ext0 hm.to) (hL.ext0 hm.to) hfw hmx) fun v w hR => ?_
    obtain ⟨rfl, hE⟩ := hR
    refine ⟨trivial, ?_⟩
    replace hm := hm.ext hE
    refine rw_p rfl rfl (y_ge rfl rfl) ?_
    refine rw_p rfl rfl (y_pickF rfl rfl) ?_
    refine rw_done ?_
    refine gn_sq ?_
    refine HW_cond rfl rfl (fun hc0 => ?_) (fun hc0 => ?_)
    ·
      simp only [decide_eq_true_eq] at hc0
      have hbad : ¬ (0 ≤ i ∧ i < Pl.first s (xs.map CmdV.cm) (xs.map CmdV.cm).length) := by omega
      refine HW_seq rfl ?_
      refine HW_text (.pure 0 (.act 1 (.pure 2 .done))) (by kernel_rfl) ?_
      refine rw_p rfl rfl (y_build (cs := [_, _, _, _, _, _, _]) z36 ft36 rfl rfl rfl rfl rfl) ?_
      refine a_store rfl rfl rfl rfl sz36 rfl hm 0 rfl rfl fun w hm => ?_
      refine rw_p rfl rfl (y_assign rfl) ?_
      refine rw_done ?_
      refine gn_sq ?_
      refine HW_ret rfl ?_
      refine gr_sq ?_
      refine toR (fin hret rfl (.cell rfl (run_loadVar_a (vs := [_, _, _, _, _, _, _]) ag36 (hm.get (k := 0) rfl) rfl) (.tmp rfl .nil)) .more ?_)
      exact ⟨0, 0, Pl.cm0, none, 0, 0, 0, .gap, by rw [decide_eq_false hbad]; rfl, .nil _ _ _ _, (hm.drop (List.nil_sublist _)).gapIn, fun h => absurd h hbad, fun _ => ⟨rfl, rfl, rfl⟩⟩
    ·
      simp only [decide_eq_false_iff_not] at hc0
      have hgood : 0 ≤ i ∧ i < Pl.first s (xs.map CmdV.cm) (xs.map CmdV.cm).length := by omega
      refine HW_skip rfl ?_
      refine gn_sq ?_
      refine HW_seq rfl ?_
      refine HW_text (.pure 0 (.pure 1 (.pure 2 (.pure 3 (.pure 4 (.act 5 (.pure 6 .done))))))) (by kernel_rfl) ?_
      refine rw_p rfl rfl (y_move rfl) ?_
      refine rw_p rfl rfl (y_nil rfl) ?_
      refine rw_p rfl rfl (y_fieldAddr rfl fo64_0) ?_
      refine rw_p rfl rfl (y_loadA (s := 3) (vs := [_, _, _]) rfl ag62 (nowT ((hm.to.same _ (Array.getElem?_eq_some_iff.1 hP).1 id).trans hP)) rfl) ?_
      refine rw_p rfl rfl (y_move rfl) ?_
      refine a_call rfl rfl rfl go38 (nm_find i s pf cf pb cb (xs.map CmdV.cm) _ (hF.ext0 hm.to) hfw hmx hgood.1 hgood.2) fun v w hR => ?_
      obtain ⟨k_, rfl, ⟨hk1, hk2, hk3⟩, hE⟩ := hR
      refine ⟨trivial, ?_⟩
      replace hm := hm.ext hE
      rw [List.length_map] at hk1
      obtain ⟨c, hi⟩ : ∃ y_, xs[k_]? = some y_ := ⟨_, List.getElem?_eq_getElem hk1⟩
      have hcm : (xs.map CmdV.cm)[k_]? = some c.cm := by rw [List.getElem?_map, hi]; rfl
      have hfn := Pl.first_next s hcm
      have hif := firstL_get (s := s) (cs := (xs.map CmdV.cm)) (k := k_) (by rw [List.length_map]; omega)
      obtain ⟨hcd, hcb⟩ := hD c (List.mem_of_getElem? hi)
      have hcc := hfw c.cm (List.mem_of_getElem? hcm)
      have hfl := firstL_len s (xs.map CmdV.cm)
      rw [List.length_map] at hfl
      have hnn := Pl.first_nonneg (s := s) k_ hfw
      obtain ⟨qb, qo, rfl⟩ := hL.atI encC_len (by decide) hi
      obtain ⟨b2, o2, rfl⟩ := hF.atI encI_len (by decide) hif
      have hin : 0 ≤ i - Pl.first s (xs.map CmdV.cm) k_ ∧ i - Pl.first s (xs.map CmdV.cm) k_ < Pl.chCount c.cm s := by omega
      refine rw_p rfl rfl (y_assign rfl) ?_
      refine rw_done ?_
      refine gn_sq ?_
      refine HW_seq rfl ?_
      refine HW_draw (.pure 0 (.pure 1 (.pure 2 (.pure 3 (.pure 4 (.pure 5 (.pure 6 (.pure 7 (.pure 8 (.pure 9 (.pure 10 (.pure 11 (.pure 12 (.pure 13 (.pure 14 (.pure 15 (.pure 16 (.pure 17 (.pure 18 (.pure 19 (.pure 20 (.pure 21 (.act2 22 (.pure 23 (.pure 24 (.pure 25 (.act 26 (.act 27 (.pure 28 .done)))))) 26 (.act 22 (.pure 23 (.pure 24 (.pure 25 (.act 27 (.pure 28 .done))))))))))))))))))))))))))))) No mix (by kernel_rfl) hm fun w hw hm0 hh => ?_
      have hm := hm0
      refine rw_p rfl rfl (y_move rfl) ?_
      refine rw_p rfl rfl (y_nil rfl) ?_
      refine rw_p rfl rfl (y_fieldAddr rfl fo64_1) ?_
      refine rw_p rfl rfl (y_load rfl sc22 (fun u hu => ((hm0.to.trans hu).same _ (Array.getElem?_eq_some_iff.1 hP).1 id).trans hP) rfl) ?_
      refine rw_p rfl rfl (y_move rfl) ?_
      refine rw_p rfl rfl (y_index rfl rfl sl22 rfl (by omega) (by omega)) ?_
      refine rw_p rfl rfl (y_elA rfl ag34 (hL.ext0 hm0.to).nd encC_len hi) ?_
      refine rw_p rfl rfl (y_move rfl) ?_
      refine rw_p rfl rfl (y_nil rfl) ?_
      refine rw_p rfl rfl (y_fieldAddr rfl fo64_0) ?_
      refine rw_p rfl rfl (y_fieldAddr rfl fo62_0) ?_
      refine rw_p rfl rfl (y_load rfl sc3 (fun u hu => ((hm0.to.trans hu).same _ (Array.getElem?_eq_some_iff.1 hP).1 id).trans hP) rfl) ?_
      refine rw_p rfl rfl (y_move rfl) ?_
      refine rw_p rfl rfl (y_move rfl) ?_
      refine rw_p rfl rfl (y_nil rfl) ?_
      refine rw_p rfl rfl (y_fieldAddr rfl fo64_0) ?_
      refine rw_p rfl rfl (y_fieldAddr rfl fo62_1) ?_
      refine rw_p rfl rfl (y_load rfl sc60 (fun u hu => ((hm0.to.trans hu).same _ (Array.getElem?_eq_some_iff.1 hP).1 id).trans hP) rfl) ?_
      refine rw_p rfl rfl (y_move rfl) ?_
      refine rw_p rfl rfl (y_index rfl rfl sl60 rfl (by omega) (by omega)) ?_
      refine rw_p rfl rfl (y_el1 rfl sc3 (hF.ext0 hm0.to).nd encI_len hif rfl) ?_
      refine rw_p rfl rfl (y_sub rfl rfl (i64w (by omega) (by omega))) ?_
      refine a_two ?_ ?_
      ·
        refine a_call rfl rfl rfl go39 (ch_at c.cm c.d.p c.d.cap s _ _ hcc.1 (hcd.rd.ext0 hm.to) hcd.le hcd.spot hcb hs.1 (by simp only [Pl.I64]; omega)) fun v w hR => ?_
        rw [if_pos hin, decide_eq_true hin] at hR
        obtain ⟨p_s, n_s, cap_s, g_s, b_s, rfl, ha_s, hmc⟩ := hR
        refine ⟨hh.ext hmc.to, ?_⟩
        replace hh := hh.ext hmc.to
        replace hm := hm.callN hmc
        obtain rfl := ha_s.lenB
        refine rw_p rfl rfl (y_move rfl) ?_
        refine rw_p rfl rfl (y_extract rfl rfl) ?_
        refine rw_p rfl rfl (y_extract rfl rfl) ?_
        refine a_alloc rfl rfl z34 hm hh fun m2 w hg_m2 hm hh => ?_
        refine a_storeN rfl rfl rfl rfl sz34 rfl hm 0 rfl rfl hh (.inl hg_m2) fun w hm hh => ?_
        refine rw_p rfl rfl (y_assign rfl) ?_
        refine rw_done ?_
        refine gn_sq ?_
        refine HW_seq rfl ?_
        refine HW_text (.pure 0 (.pure 1 (.pure 2 (.pure 3 (.pure 4 (.act 5 (.pure 6 .done))))))) (by kernel_rfl) ?_
        refine rw_p rfl rfl (y_move rfl) ?_
        refine rw_p rfl rfl (y_move rfl) ?_
        refine rw_p rfl rfl (y_loadA (s := 5) (vs := [_, _, _, _, _]) rfl ag34 (hm.nt 0 rfl) rfl) ?_
        refine rw_p rfl rfl (y_build (cs := [_, _, _, _, _, _, _]) z36 ft36 rfl rfl rfl rfl rfl) ?_
        refine rw_p rfl rfl (y_move rfl) ?_
        refine a_store rfl rfl rfl rfl sz36 rfl hm 2 rfl rfl fun w hm => ?_
        refine rw_p rfl rfl (y_assign rfl) ?_
        refine rw_done ?_
        refine gn_sq ?_
        refine HW_ret rfl ?_
        refine toR (fin hret rfl (.cell rfl (run_loadVar_a (vs := [_, _, _, _, _, _, _]) ag36 (hm.get (k := 2) rfl) rfl) (.tmp rfl .nil)) .more ?_)
        exact ⟨i, k_, Pl.chAt c.cm s (i - Pl.first s (xs.map CmdV.cm) k_), p_s, _, cap_s, g_s, b_s, by rw [decide_eq_true hgood]; rfl, ha_s, (hm.pick [1] rfl), fun _ => ⟨rfl, by omega, by (have h9 := Pl.steps_get (b := 0) (i := i.toNat) hfw hcm (by omega) (by omega)); rw [Nat.zero_add, show ((i.toNat : Nat) : Int) = i by omega] at h9; exact h9⟩, fun h => absurd hgood h⟩
      ·
        refine a_alloc rfl rfl z34 hm hh fun m2 w hg_m2 hm hh => ?_
        refine a_call rfl rfl rfl go39 (ch_at c.cm c.d.p c.d.cap s _ _ hcc.1 (hcd.rd.ext0 hm.to) hcd.le hcd.spot hcb hs.1 (by simp only [Pl.I64]; omega)) fun v w hR => ?_
        rw [if_pos hin, decide_eq_true hin] at hR
        obtain ⟨p_s, n_s, cap_s, g_s, b_s, rfl, ha_s, hmc⟩ := hR
        refine ⟨hh.ext hmc.to, ?_⟩
        replace hh := hh.ext hmc.to
        replace hm := hm.callN hmc
        obtain rfl := ha_s.lenB
        refine rw_p rfl rfl (y_move rfl) ?_
        refine rw_p rfl rfl (y_extract rfl rfl) ?_
        refine rw_p rfl rfl (y_extract rfl rfl) ?_
        refine a_storeN rfl rfl rfl rfl sz34 rfl hm 1 rfl rfl hh (.inl hg_m2) fun w hm hh => ?_
        refine rw_p rfl rfl (y_assign rfl) ?_
        refine rw_done ?_
        refine gn_sq ?_
        refine HW_seq rfl ?_
        refine HW_text (.pure 0 (.pure 1 (.pure 2 (.pure 3 (.pure 4 (.act 5 (.pure 6 .done))))))) (by kernel_rfl) ?_
        refine rw_p rfl rfl (y_move rfl) ?_
        refine rw_p rfl rfl (y_move rfl) ?_
        refine rw_p rfl rfl (y_loadA (s := 5) (vs := [_, _, _, _, _]) rfl ag34 (hm.nt 1 rfl) rfl) ?_
        refine rw_p rfl rfl (y_build (cs := [_, _, _, _, _, _, _]) z36 ft36 rfl rfl rfl rfl rfl) ?_
        refine rw_p rfl rfl (y_move rfl) ?_
        refine a_store rfl rfl rfl rfl sz36 rfl hm 2 rfl rfl fun w hm => ?_
        refine rw_p rfl rfl (y_assign rfl) ?_
        refine rw_done ?_
        refine gn_sq ?_
        refine HW_ret rfl ?_
        refine toR (fin hret rfl (.cell rfl (run_loadVar_a (vs := [_, _, _, _, _, _, _]) ag36 (hm.get (k := 2) rfl) rfl) (.tmp rfl .nil)) .more ?_)
        exact ⟨i, k_, Pl.chAt c.cm s (i - Pl.first s (xs.map CmdV.cm) k_), p_s, _, cap_s, g_s, b_s, by rw [decide_eq_true hgood]; rfl, ha_s, (hm.pick [0] rfl), fun _ => ⟨rfl, by omega, by (have h9 := Pl.steps_get (b := 0) (i := i.toNat) hfw hcm (by omega) (by omega)); rw [Nat.zero_add, show ((i.toNat : Nat) : Int) = i by omega] at h9; exact h9⟩, fun h => absurd hgood h⟩

theorem p_first (k : Int) (m : Nat) (s : Int) (pf : Option Addr) (cf : Nat) (pb : Option Addr) (cb : Nat) (pl : Option Addr) (cl : Nat) (xs : List CmdV) (w0 : World) (hP : w0.heap[m]? = some (Blk.row 64 (plV s pf (firstL s (xs.map CmdV.cm)).length cf pb cb pl xs.length cl)).toObj) (hF : Rd w0 pf ((firstL s (xs.map CmdV.cm)).flatMap encI)) (hB : Rd w0 pb ((beforeL (xs.map CmdV.cm)).flatMap encI)) (hL : Rd w0 pl (xs.flatMap encC)) (hfw : Pl.fewC s (xs.map CmdV.cm)) (hmx : (xs.map CmdV.cm).length ≤ 1000000 ∧ Pl.first s (xs.map CmdV.cm) (xs.map CmdV.cm).length ≤ 4611686018427387903) (hk64 : Pl.I64 k) : C Try.prog 17 [.pointer (some ⟨m, 0, none⟩), .int .i64 k] w0 fun v w' => v = .int .i64 (if 0 ≤ k ∧ k < (xs.length : Nat) then Pl.first s (xs.map CmdV.cm) k.toNat else -1) ∧ Ext No w0 w' := by
  refine C_of Try.func17 rfl rfl rfl fun κ hret hnorm => ?_
  have hm := Mem.start w0
  refine HW_seq rfl ?_
  refine HW_text (.pure 0 .done) (by kernel_rfl) ?_
  refine rw_p rfl rfl (y_assign rfl) ?_
  refine rw_done ?_
  refine gn_sq ?_
  refine HW_seq rfl ?_
  refine HW_seq rfl ?_
  by_cases h0 : k < 0
  ·
    have hbad : ¬ (0 ≤ k ∧ k < (xs.length : Nat)) := by omega
    refine HW_text (.pure 0 (.pure 1 (.pure 2 (.pure 3 (.pure 4 (.pure 5 (.pure 6 (.pure 7 (.pure 8 (.pure 9 (.pure 10 (.pure 11 (.pure 12 (.pure 13 (.pure 14 .done))))))))))))))) (by kernel_rfl) ?_
    refine rw_p rfl rfl (y_move rfl) ?_
    refine rw_p rfl rfl (y_pnil rfl rfl pb25) ?_
    refine rw_p rfl rfl (y_move rfl) ?_
    refine rw_p rfl rfl (y_move rfl) ?_
    refine rw_p rfl rfl (y_lt rfl rfl) ?_
    refine rw_p rfl rfl (y_pickF rfl rfl) ?_
    refine rw_p rfl rfl (y_as (c := true) (y_move rfl) (decide_eq_true h0)) ?_
    refine rw_gf rfl rfl (by decide) rfl ?_
    refine rw_gf rfl rfl (by decide) rfl ?_
    refine rw_gf rfl rfl (by decide) rfl ?_
    refine rw_gf rfl rfl (by decide) rfl ?_
    refine rw_gf rfl rfl (by decide) rfl ?_
    refine rw_gf rfl rfl (by decide) rfl ?_
    refine rw_gf rfl rfl (by decide) rfl ?_
    refine rw_p rfl rfl (y_pickT rfl rfl) ?_
    refine rw_done ?_
    refine gn_sq ?_
    refine HW_condT rfl rfl rfl ?_
    refine HW_seq rfl ?_
    refine HW_text (.pure 0 .done) (by kernel_rfl) ?_
    refine rw_p rfl rfl (y_assign rfl) ?_
    refine rw_done ?_
    refine gn_sq ?_
    refine HW_ret rfl ?_
    refine gr_sq ?_
    refine toR (fin hret rfl (.tmp rfl .nil) .one ?_)
    exact ⟨by rw [if_neg hbad], hm.to⟩
  ·
    refine HW_text (.pure 0 (.pure 1 (.pure 2 (.pure 3 (.pure 4 (.pure 5 (.pure 6 (.pure 7 (.pure 8 (.pure 9 (.pure 10 (.pure 11 (.pure 12 (.pure 13 (.pure 14 .done))))))))))))))) (by kernel_rfl) ?_
    refine rw_p rfl rfl (y_move rfl) ?_
    refine rw_p rfl rfl (y_pnil rfl rfl pb25) ?_
    refine rw_p rfl rfl (y_move rfl) ?_
    refine rw_p rfl rfl (y_move rfl) ?_
    refine rw_p rfl rfl (y_lt rfl rfl) ?_
    refine rw_p rfl rfl (y_pickF rfl rfl) ?_
    refine rw_p rfl rfl (y_as (c := false) (y_move rfl) (decide_eq_false h0)) ?_
    refine rw_p rfl rfl (y_move rfl) ?_
    refine rw_p rfl rfl (y_move rfl) ?_
    refine rw_p rfl rfl (y_nil rfl) ?_
    refine rw_p rfl rfl (y_fieldAddr rfl fo64_1) ?_
    refine rw_p rfl rfl (y_load rfl sc22 (nowT ((hm.to.same _ (Array.getElem?_eq_some_iff.1 hP).1 id).trans hP)) rfl) ?_
    refine rw_p rfl rfl (y_len rfl rfl sl22) ?_
    refine rw_p rfl rfl (y_ge rfl rfl) ?_
    refine rw_p rfl rfl (y_pickF rfl rfl) ?_
    refine rw_done ?_
    refine gn_sq ?_
    refine HW_cond rfl rfl (fun hc0 => ?_) (fun hc0 => ?_)
    ·
      simp only [decide_eq_true_eq] at hc0
      have hbad : ¬ (0 ≤ k ∧ k < (xs.length : Nat)) := by omega
      refine HW_seq rfl ?_
      refine HW_text (.pure 0 .done) (by kernel_rfl) ?_
      refine rw_p rfl rfl (y_assign rfl) ?_
      refine rw_done ?_
      refine gn_sq ?_
      refine HW_ret rfl ?_
      refine gr_sq ?_
      refine toR (fin hret rfl (.tmp rfl .nil) .one ?_)
      exact ⟨by rw [if_neg hbad], hm.to⟩
    ·
      simp only [decide_eq_false_iff_not] at hc0
      obtain ⟨kn, rfl⟩ : ∃ kn : Nat, k = kn := ⟨k.toNat, by omega⟩
      have hfl := firstL_len s (xs.map CmdV.cm)
      rw [List.length_map] at hfl
      have hif := firstL_get (s := s) (cs := (xs.map CmdV.cm)) (k := kn) (by rw [List.length_map]; omega)
      obtain ⟨b2, o2, rfl⟩ := hF.atI encI_len (by decide) hif
      refine HW_skip rfl ?_
      refine gn_sq ?_
      refine HW_seq rfl ?_
      refine HW_text (.pure 0 (.pure 1 (.pure 2 (.pure 3 (.pure 4 (.pure 5 (.pure 6 (.pure 7 (.pure 8 .done))))))))) (by kernel_rfl) ?_
      refine rw_p rfl rfl (y_move rfl) ?_
      refine rw_p rfl rfl (y_nil rfl) ?_
      refine rw_p rfl rfl (y_fieldAddr rfl fo64_0) ?_
      refine rw_p rfl rfl (y_fieldAddr rfl fo62_1) ?_
      refine rw_p rfl rfl (y_load rfl sc60 (nowT ((hm.to.same _ (Array.getElem?_eq_some_iff.1 hP).1 id).trans hP)) rfl) ?_
      refine rw_p rfl rfl (y_move rfl) ?_
      refine rw_p rfl rfl (y_index rfl rfl sl60 rfl (by omega) (by omega)) ?_
      refine rw_p rfl rfl (y_el1 rfl sc3 (hF.ext0 hm.to).nt encI_len hif rfl) ?_
      refine rw_p rfl rfl (y_assign rfl) ?_
      refine rw_done ?_
      refine gn_sq ?_
      refine HW_ret rfl ?_
      refine toR (fin hret rfl (.tmp rfl .nil) .one ?_)
      exact ⟨by rw [if_pos (by omega)]; rfl, hm.to⟩

theorem r18_first (q : Option Addr) (cq : Nat) (ts : List (Int × Int × CmdV)) (w0 : World) (hx : Rd w0 q (ts.flatMap encT)) (hl : ts.length ≤ 4611686018427387903) (k : Int) : C Try.prog 18 [.slice q ts.length cq, .int .i64 k] w0 fun v w' => v = .int .i64 (Pl.idx (fun t => decide (t.2.1 = k)) ts) ∧ Ext No w0 w' := by
  refine C_of Try.func18 rfl rfl rfl fun κ hret hnorm => ?_
  have hm := Mem.start w0
  refine HW_seq rfl ?_
  refine HW_text (.pure 0 .done) (by kernel_rfl) ?_
  refine rw_p rfl rfl (y_assign rfl) ?_
  refine rw_done ?_
  refine gn_sq ?_
  refine HW_seq rfl ?_
  refine HW_seq rfl ?_
  refine HW_text (.pure 0 .done) (by kernel_rfl) ?_
  refine rw_p rfl rfl (y_assign rfl) ?_
  refine rw_done ?_
  refine gn_sq ?_
  refine HW_block rfl ?_
  refine HW_loopK (ι := Nat) rfl (ks := [0, 1]) (.cons rfl (.cons rfl .nil)) (fun x => [(5, .int .i64 x)]) (fun x w => Mem w0 w No [] ∧ x ≤ ts.length ∧ ∀ (j : Nat) y, j < x → ts[j]? = some y → decide (y.2.1 = k) = false) (fun x => ts.length - x) 0 (⟨hm, Nat.zero_le _, fun _ _ h => absurd h (Nat.not_lt_zero _)⟩) ⟨rfl, trivial⟩ (fun x w hM => ?_)
  obtain ⟨hm, hk, hno⟩ := hM
  refine HW_seq rfl ?_
  refine HW_seq rfl ?_
  refine HW_text (.pure 0 (.pure 1 (.pure 2 (.pure 3 .done)))) (by kernel_rfl) ?_
  refine rw_p rfl rfl (y_move rfl) ?_
  refine rw_p rfl rfl (y_move rfl) ?_
  refine rw_p rfl rfl (y_len rfl rfl sl29) ?_
  refine rw_p rfl rfl (y_lt rfl rfl) ?_
  refine rw_done ?_
  refine gn_sq ?_
  refine HW_cond rfl rfl (fun hc0 => ?_) (fun hc0 => ?_)
  ·
    simp only [decide_eq_true_eq] at hc0
    obtain ⟨t, hi⟩ : ∃ y_, ts[x]? = some y_ := ⟨_, List.getElem?_eq_getElem (by omega)⟩
    obtain ⟨qb, qo, rfl⟩ := hx.atI encT_len (by decide) hi
    refine HW_skip rfl ?_
    refine gn_sq ?_
    refine HW_seq rfl ?_
    refine HW_block rfl ?_
    refine HW_seq rfl ?_
    refine HW_text (.pure 0 (.pure 1 (.pure 2 (.pure 3 (.pure 4 (.pure 5 (.pure 6 .done))))))) (by kernel_rfl) ?_
    refine rw_p rfl rfl (y_move rfl) ?_
    refine rw_p rfl rfl (y_move rfl) ?_
    refine rw_p rfl rfl (y_index rfl rfl sl29 rfl (by omega) (by omega)) ?_
    refine rw_p rfl rfl (y_fieldAddr rfl fo40_1) ?_
    refine rw_p rfl rfl (y_elS rfl sc3 (hx.ext0 hm.to).nt encT_len hi rfl) ?_
    refine rw_p rfl rfl (y_move rfl) ?_
    refine rw_p rfl rfl (y_eq rfl rfl) ?_
    refine rw_done ?_
    refine gn_sq ?_
    refine HW_cond rfl rfl (fun hc1 => ?_) (fun hc1 => ?_)
    ·
      refine HW_seq rfl ?_
      refine HW_text (.pure 0 (.pure 1 .done)) (by kernel_rfl) ?_
      refine rw_p rfl rfl (y_move rfl) ?_
      refine rw_p rfl rfl (y_assign rfl) ?_
      refine rw_done ?_
      refine gn_sq ?_
      refine HW_ret rfl ?_
      refine gr_bl (gr_sq (gr_lp (gr_bl (gr_sq ?_))))
      refine toR (fin hret rfl (.tmp rfl .nil) .one ?_)
      exact ⟨by rw [Pl.idx_first hi hc1 hno], hm.to⟩
    ·
      refine HW_skip rfl ?_
      refine gn_bl ?_
      refine gn_sq ?_
      refine HW_text (.pure 0 (.pure 1 (.pure 2 .done))) (by kernel_rfl) ?_
      refine rw_p rfl rfl (y_move rfl) ?_
      refine rw_p rfl rfl (y_add rfl rfl (i64w (by omega) (by omega))) ?_
      refine rw_p rfl rfl (y_assign rfl) ?_
      refine rw_done ?_
      refine next (x + 1) (by omega) ⟨hm, by omega, fun j y hj hy => ?_⟩ ⟨nx x, rfl, rfl, trivial⟩
      rcases Nat.lt_or_ge j x with h | h
      · exact hno j y h hy
      · obtain rfl : j = x := by omega
        rw [hi] at hy; cases hy; exact hc1
  ·
    simp only [decide_eq_false_iff_not] at hc0
    obtain rfl : x = ts.length := by omega
    refine HW_exit rfl ?_
    refine gx_sq (gx_lp ?_)
    refine gx_here ?_
    refine gn_sq ?_
    refine HW_seq rfl ?_
    refine HW_text (.pure 0 .done) (by kernel_rfl) ?_
    refine rw_p rfl rfl (y_assign rfl) ?_
    refine rw_done ?_
    refine gn_sq ?_
    refine HW_ret rfl ?_
    refine toR (fin hret rfl (.tmp rfl .nil) .one ?_)
    exact ⟨by rw [Pl.idx_none hno], hm.to⟩

theorem r18_same (a b : Int × Int × CmdV) (w0 : World) (ha : Rd w0 a.2.2.d.p (a.2.2.d.bs.flatMap encB)) (hb : Rd w0 b.2.2.d.p (b.2.2.d.bs.flatMap encB)) : C Try.prog 16 [.agg ⟨encT a⟩, .agg ⟨encT b⟩] w0 fun v w' => v = .bool (decide (a.1 = b.1 ∧ a.2.1 = b.2.1) && Pl.csame a.2.2.cm b.2.2.cm) ∧ Ext No w0 w' := by
  refine C_of Try.func16 rfl rfl rfl fun κ hret hnorm => ?_
  have hm := Mem.start w0
  refine HW_seq rfl ?_
  refine HW_text (.act 0 (.act 1 (.pure 2 .done))) (by kernel_rfl) ?_
  refine a_box rfl rfl rfl rfl hm trivial fun m1 w hg_m1 hm hh => ?_
  refine a_box rfl rfl rfl rfl hm trivial fun m2 w hg_m2 hm hh => ?_
  refine rw_p rfl rfl (y_assign rfl) ?_
  refine rw_done ?_
  refine gn_sq ?_
  refine HW_seq rfl ?_
  by_cases h1 : a.1 = b.1
  by_cases h2 : a.2.1 = b.2.1
  rotate_left
  rotate_left
  ·
    refine HW_text (.pure 0 (.pure 1 (.pure 2 (.pure 3 (.pure 4 (.pure 5 (.pure 6 (.pure 7 (.pure 8 (.pure 9 (.pure 10 (.pure 11 (.pure 12 (.pure 13 (.pure 14 (.pure 15 (.pure 16 (.act 17 (.pure 18 (.pure 19 .done)))))))))))))))))))) (by kernel_rfl) ?_
    refine rw_p rfl rfl (y_fieldAddr rfl fo40_0) ?_
    refine rw_p rfl rfl (y_load rfl sc3 (hm.nt 1 rfl) rfl) ?_
    refine rw_p rfl rfl (y_fieldAddr rfl fo40_0) ?_
    refine rw_p rfl rfl (y_load rfl sc3 (hm.nt 0 rfl) rfl) ?_
    refine rw_p rfl rfl (y_eq rfl rfl) ?_
    refine rw_p rfl rfl (y_as (c := false) (y_move rfl) (decide_eq_false h1)) ?_
    refine rw_gf rfl rfl (by decide) rfl ?_
    refine rw_gf rfl rfl (by decide) rfl ?_
    refine rw_gf rfl rfl (by decide) rfl ?_
    refine rw_gf rfl rfl (by decide) rfl ?_
    refine rw_gf rfl rfl (by decide) rfl ?_
    refine rw_p rfl rfl (y_pickF rfl rfl) ?_
    refine rw_p rfl rfl (y_as (c := false) (y_move rfl) rfl) ?_
    refine rw_gf rfl rfl (by decide) rfl ?_
    refine rw_gf rfl rfl (by decide) rfl ?_
    refine rw_gf rfl rfl (by decide) rfl ?_
    refine rw_gf rfl rfl (by decide) rfl ?_
    refine a_gf rfl rfl (by decide) rfl trivial ?_
    refine rw_p rfl rfl (y_pickF rfl rfl) ?_
    refine rw_p rfl rfl (y_assign rfl) ?_
    refine rw_done ?_
    refine gn_sq ?_
    refine HW_ret rfl ?_
    refine toR (fin hret rfl (.tmp rfl .nil) .one ?_)
    exact ⟨by simp_all, hm.to⟩
  ·
    refine HW_text (.pure 0 (.pure 1 (.pure 2 (.pure 3 (.pure 4 (.pure 5 (.pure 6 (.pure 7 (.pure 8 (.pure 9 (.pure 10 (.pure 11 (.pure 12 (.pure 13 (.pure 14 (.pure 15 (.pure 16 (.act 17 (.pure 18 (.pure 19 .done)))))))))))))))))))) (by kernel_rfl) ?_
    refine rw_p rfl rfl (y_fieldAddr rfl fo40_0) ?_
    refine rw_p rfl rfl (y_load rfl sc3 (hm.nt 1 rfl) rfl) ?_
    refine rw_p rfl rfl (y_fieldAddr rfl fo40_0) ?_
    refine rw_p rfl rfl (y_load rfl sc3 (hm.nt 0 rfl) rfl) ?_
    refine rw_p rfl rfl (y_eq rfl rfl) ?_
    refine rw_p rfl rfl (y_as (c := true) (y_move rfl) (decide_eq_true h1)) ?_
    refine rw_p rfl rfl (y_fieldAddr rfl fo40_1) ?_
    refine rw_p rfl rfl (y_load rfl sc3 (hm.nt 1 rfl) rfl) ?_
    refine rw_p rfl rfl (y_fieldAddr rfl fo40_1) ?_
    refine rw_p rfl rfl (y_load rfl sc3 (hm.nt 0 rfl) rfl) ?_
    refine rw_p rfl rfl (y_eq rfl rfl) ?_
    refine rw_p rfl rfl (y_pickT rfl rfl) ?_
    refine rw_p rfl rfl (y_as (c := true) (y_move rfl) (decide_eq_true h2)) ?_
    refine rw_p rfl rfl (y_fieldAddr rfl fo40_2) ?_
    refine rw_p rfl rfl (y_loadA (s := 5) (vs := [_, _, _, _, _]) rfl ag34 (hm.nt 1 rfl) rfl) ?_
    refine rw_p rfl rfl (y_fieldAddr rfl fo40_2) ?_
    refine rw_p rfl rfl (y_loadA (s := 5) (vs := [_, _, _, _, _]) rfl ag34 (hm.nt 0 rfl) rfl) ?_
    refine a_call rfl rfl rfl go29 (r4_same a.2.2.cm b.2.2.cm a.2.2.d.p b.2.2.d.p a.2.2.d.cap b.2.2.d.cap _ (ha.ext0 hm.to) (hb.ext0 hm.to)) fun v w hR => ?_
    obtain ⟨rfl, hE⟩ := hR
    refine ⟨trivial, ?_⟩
    replace hm := hm.ext hE
    refine rw_p rfl rfl (y_pickT rfl rfl) ?_
    refine rw_p rfl rfl (y_assign rfl) ?_
    refine rw_done ?_
    refine gn_sq ?_
    refine HW_ret rfl ?_
    refine toR (fin hret rfl (.tmp rfl .nil) .one ?_)
    exact ⟨by simp_all, hm.to⟩
  ·
    refine HW_text (.pure 0 (.pure 1 (.pure 2 (.pure 3 (.pure 4 (.pure 5 (.pure 6 (.pure 7 (.pure 8 (.pure 9 (.pure 10 (.pure 11 (.pure 12 (.pure 13 (.pure 14 (.pure 15 (.pure 16 (.act 17 (.pure 18 (.pure 19 .done)))))))))))))))))))) (by kernel_rfl) ?_
    refine rw_p rfl rfl (y_fieldAddr rfl fo40_0) ?_
    refine rw_p rfl rfl (y_load rfl sc3 (hm.nt 1 rfl) rfl) ?_
    refine rw_p rfl rfl (y_fieldAddr rfl fo40_0) ?_
    refine rw_p rfl rfl (y_load rfl sc3 (hm.nt 0 rfl) rfl) ?_
    refine rw_p rfl rfl (y_eq rfl rfl) ?_
    refine rw_p rfl rfl (y_as (c := true) (y_move rfl) (decide_eq_true h1)) ?_
    refine rw_p rfl rfl (y_fieldAddr rfl fo40_1) ?_
    refine rw_p rfl rfl (y_load rfl sc3 (hm.nt 1 rfl) rfl) ?_
    refine rw_p rfl rfl (y_fieldAddr rfl fo40_1) ?_
    refine rw_p rfl rfl (y_load rfl sc3 (hm.nt 0 rfl) rfl) ?_
    refine rw_p rfl rfl (y_eq rfl rfl) ?_
    refine rw_p rfl rfl (y_pickT rfl rfl) ?_
    refine rw_p rfl rfl (y_as (c := false) (y_move rfl) (decide_eq_false h2)) ?_
    refine rw_gf rfl rfl (by decide) rfl ?_
    refine rw_gf rfl rfl (by decide) rfl ?_
    refine rw_gf rfl rfl (by decide) rfl ?_
    refine rw_gf rfl rfl (by decide) rfl ?_
    refine a_gf rfl rfl (by decide) rfl trivial ?_
    refine rw_p rfl rfl (y_pickF rfl rfl) ?_
    refine rw_p rfl rfl (y_assign rfl) ?_
    refine rw_done ?_
    refine gn_sq ?_
    refine HW_ret rfl ?_
    refine toR (fin hret rfl (.tmp rfl .nil) .one ?_)
    exact ⟨by simp_all, hm.to⟩

set_option maxHeartbeats 800000 in
theorem p_written (i : Int) (m : Nat) (s : Int) (pf : Option Addr) (cf : Nat) (pb : Option Addr) (cb : Nat) (pl : Option Addr) (cl : Nat) (xs : List CmdV) (w0 : World) (hP : w0.heap[m]? = some (Blk.row 64 (plV s pf (firstL s (xs.map CmdV.cm)).length cf pb cb pl xs.length cl)).toObj) (hF : Rd w0 pf ((firstL s (xs.map CmdV.cm)).flatMap encI)) (hB : Rd w0 pb ((beforeL (xs.map CmdV.cm)).flatMap encI)) (hL : Rd w0 pl (xs.flatMap encC)) (hfw : Pl.fewC s (xs.map CmdV.cm)) (hmx : (xs.map CmdV.cm).length ≤ 1000000 ∧ Pl.first s (xs.map CmdV.cm) (xs.map CmdV.cm).length ≤ 4611686018427387903) (hD : ∀ x ∈ xs, x.d.okN w0 ∧ x.d.bs.length ≤ 140737488355328) (hs : Pl.I64 s ∧ 1 ≤ s) (hi64 : Pl.I64 i) (hwb : ∀ j, 0 ≤ Pl.wsum ((Pl.steps s 0 (xs.map CmdV.cm)).take j) ∧ Pl.wsum ((Pl.steps s 0 (xs.map CmdV.cm)).take j) ≤ 4611686018427387903) : C Try.prog 19 [.pointer (some ⟨m, 0, none⟩), .int .i64 i] w0 fun v w' => v = .int .i64 (Pl.wsum ((Pl.steps s 0 (xs.map CmdV.cm)).take i.toNat)) ∧ Ext No w0 w' := by
  have hbl := beforeL_len (xs.map CmdV.cm)
  rw [List.length_map] at hbl
  have hfl0 := firstL_len s (xs.map CmdV.cm)
  rw [List.length_map] at hfl0
  refine C_of Try.func19 rfl rfl rfl fun κ hret hnorm => ?_
  have hm := Mem.start w0
  refine HW_seq rfl ?_
  refine HW_text (.pure 0 .done) (by kernel_rfl) ?_
  refine rw_p rfl rfl (y_assign rfl) ?_
  refine rw_done ?_
  refine gn_sq ?_
  refine HW_seq rfl ?_
  refine HW_seq rfl ?_
  refine HW_text (.pure 0 (.pure 1 (.pure 2 (.pure 3 (.pure 4 (.pure 5 .done)))))) (by kernel_rfl) ?_
  refine rw_p rfl rfl (y_move rfl) ?_
  refine rw_p rfl rfl (y_pnil rfl rfl pb25) ?_
  refine rw_p rfl rfl (y_move rfl) ?_
  refine rw_p rfl rfl (y_move rfl) ?_
  refine rw_p rfl rfl (y_le rfl rfl) ?_
  refine rw_p rfl rfl (y_pickF rfl rfl) ?_
  refine rw_done ?_
  refine gn_sq ?_
  refine HW_cond rfl rfl (fun hc0 => ?_) (fun hc0 => ?_)
  ·
    simp only [decide_eq_true_eq] at hc0
    refine HW_seq rfl ?_
    refine HW_text (.pure 0 .done) (by kernel_rfl) ?_
    refine rw_p rfl rfl (y_assign rfl) ?_
    refine rw_done ?_
    refine gn_sq ?_
    refine HW_ret rfl ?_
    refine gr_sq ?_
    refine toR (fin hret rfl (.tmp rfl .nil) .one ?_)
    exact ⟨by rw [show i.toNat = 0 by omega]; rfl, hm.to⟩
  ·
    simp only [decide_eq_false_iff_not] at hc0
    refine HW_skip rfl ?_
    refine gn_sq ?_
    refine HW_seq rfl ?_
    refine HW_seq rfl ?_
    refine HW_text (.pure 0 (.pure 1 (.act 2 (.pure 3 .done)))) (by kernel_rfl) ?_
    refine rw_p rfl rfl (y_move rfl) ?_
    refine rw_p rfl rfl (y_move rfl) ?_
    refine a_call rfl rfl rfl go14 (p_len m s pf cf pb cb pl cl xs _ ((hm.to.same _ (Array.getElem?_eq_some_iff.1 hP).1 id).trans hP) (hF.ext0 hm.to) (hB.ext0 hm.to) (hL.ext0 hm.to) hfw hmx) fun v w hR => ?_
    obtain ⟨rfl, hE⟩ := hR
    refine ⟨trivial, ?_⟩
    replace hm := hm.ext hE
    refine rw_p rfl rfl (y_ge rfl rfl) ?_
    refine rw_done ?_
    refine gn_sq ?_
    refine HW_cond rfl rfl (fun hc1 => ?_) (fun hc1 => ?_)
    ·
      simp only [decide_eq_true_eq] at hc1
      have hbi := beforeL_get (cs := (xs.map CmdV.cm)) (k := xs.length) (by rw [List.length_map]; omega)
      obtain ⟨b3, o3, rfl⟩ := hB.atI encI_len (by decide) hbi
      have hwe := wsum_end hs.2 hfw hc1
      rw [List.length_map] at hwe
      refine HW_seq rfl ?_
      refine HW_draw (.pure 0 (.pure 1 (.pure 2 (.pure 3 (.pure 4 (.pure 5 (.pure 6 (.pure 7 (.pure 8 (.pure 9 (.pure 10 (.pure 11 (.pure 12 .done))))))))))))) No mix (by kernel_rfl) hm fun w hw hm0 hh => ?_
      have hm := hm0
      refine rw_p rfl rfl (y_move rfl) ?_
      refine rw_p rfl rfl (y_nil rfl) ?_
      refine rw_p rfl rfl (y_fieldAddr rfl fo64_0) ?_
      refine rw_p rfl rfl (y_fieldAddr rfl fo62_2) ?_
      refine rw_p rfl rfl (y_load rfl sc60 (fun u hu => ((hm0.to.trans hu).same _ (Array.getElem?_eq_some_iff.1 hP).1 id).trans hP) rfl) ?_
      refine rw_p rfl rfl (y_move rfl) ?_
      refine rw_p rfl rfl (y_nil rfl) ?_
      refine rw_p rfl rfl (y_fieldAddr rfl fo64_1) ?_
      refine rw_p rfl rfl (y_load rfl sc22 (fun u hu => ((hm0.to.trans hu).same _ (Array.getElem?_eq_some_iff.1 hP).1 id).trans hP) rfl) ?_
      refine rw_p rfl rfl (y_len rfl rfl sl22) ?_
      refine rw_p rfl rfl (y_index rfl rfl sl60 rfl (by omega) (by omega)) ?_
      refine rw_p rfl rfl (y_el1 rfl sc3 (hB.ext0 hm0.to).nd encI_len hbi rfl) ?_
      refine rw_p rfl rfl (y_assign rfl) ?_
      refine rw_done ?_
      refine gn_sq ?_
      refine HW_ret rfl ?_
      refine gr_sq ?_
      refine toR (fin hret rfl (.tmp rfl .nil) .one ?_)
      exact ⟨by rw [hwe], hm.to⟩
    ·
      simp only [decide_eq_false_iff_not] at hc1
      have hgood : 0 ≤ i ∧ i < Pl.first s (xs.map CmdV.cm) (xs.map CmdV.cm).length := by omega
      refine HW_skip rfl ?_
      refine gn_sq ?_
      refine HW_seq rfl ?_
      refine HW_text (.pure 0 (.pure 1 (.pure 2 (.pure 3 (.pure 4 (.act 5 (.pure 6 .done))))))) (by kernel_rfl) ?_
      refine rw_p rfl rfl (y_move rfl) ?_
      refine rw_p rfl rfl (y_nil rfl) ?_
      refine rw_p rfl rfl (y_fieldAddr rfl fo64_0) ?_
      refine rw_p rfl rfl (y_loadA (s := 3) (vs := [_, _, _]) rfl ag62 (nowT ((hm.to.same _ (Array.getElem?_eq_some_iff.1 hP).1 id).trans hP)) rfl) ?_
      refine rw_p rfl rfl (y_move rfl) ?_
      refine a_call rfl rfl rfl go38 (nm_find i s pf cf pb cb (xs.map CmdV.cm) _ (hF.ext0 hm.to) hfw hmx hgood.1 hgood.2) fun v w hR => ?_
      obtain ⟨k_, rfl, ⟨hk1, hk2, hk3⟩, hE⟩ := hR
      refine ⟨trivial, ?_⟩
      replace hm := hm.ext hE
      rw [List.length_map] at hk1
      obtain ⟨c, hi⟩ : ∃ y_, xs[k_]? = some y_ := ⟨_, List.getElem?_eq_getElem hk1⟩
      have hcm : (xs.map CmdV.cm)[k_]? = some c.cm := by rw [List.getElem?_map, hi]; rfl
      have hfn := Pl.first_next s hcm
      have hif := firstL_get (s := s) (cs := (xs.map CmdV.cm)) (k := k_) (by rw [List.length_map]; omega)
      obtain ⟨hcd, hcb⟩ := hD c (List.mem_of_getElem? hi)
      have hcc := hfw c.cm (List.mem_of_getElem? hcm)
      have hfl := firstL_len s (xs.map CmdV.cm)
      rw [List.length_map] at hfl
      have hnn := Pl.first_nonneg (s := s) k_ hfw
      obtain ⟨qb, qo, rfl⟩ := hL.atI encC_len (by decide) hi
      obtain ⟨b2, o2, rfl⟩ := hF.atI encI_len (by decide) hif
      have hin : 0 ≤ i - Pl.first s (xs.map CmdV.cm) k_ ∧ i - Pl.first s (xs.map CmdV.cm) k_ < Pl.chCount c.cm s := by omega
      have hbi := beforeL_get (cs := (xs.map CmdV.cm)) (k := k_) (by rw [List.length_map]; omega)
      obtain ⟨b3, o3, rfl⟩ := hB.atI encI_len (by decide) hbi
      have hwf := wsum_first hs.2 hfw hcm
      refine rw_p rfl rfl (y_assign rfl) ?_
      refine rw_done ?_
      refine gn_sq ?_
      refine HW_seq rfl ?_
      refine HW_text (.pure 0 (.pure 1 (.pure 2 (.pure 3 (.pure 4 (.pure 5 (.pure 6 (.pure 7 (.pure 8 .done))))))))) (by kernel_rfl) ?_
      refine rw_p rfl rfl (y_move rfl) ?_
      refine rw_p rfl rfl (y_nil rfl) ?_
      refine rw_p rfl rfl (y_fieldAddr rfl fo64_0) ?_
      refine rw_p rfl rfl (y_fieldAddr rfl fo62_2) ?_
      refine rw_p rfl rfl (y_load rfl sc60 (nowT ((hm.to.same _ (Array.getElem?_eq_some_iff.1 hP).1 id).trans hP)) rfl) ?_
      refine rw_p rfl rfl (y_move rfl) ?_
      refine rw_p rfl rfl (y_index rfl rfl sl60 rfl (by omega) (by omega)) ?_
      refine rw_p rfl rfl (y_el1 rfl sc3 (hB.ext0 hm.to).nt encI_len hbi rfl) ?_
      refine rw_p rfl rfl (y_assign rfl) ?_
      refine rw_done ?_
      refine gn_sq ?_
      refine HW_seq rfl ?_
      refine HW_seq rfl ?_
      refine HW_text (.pure 0 (.pure 1 (.pure 2 (.pure 3 (.pure 4 (.pure 5 (.pure 6 (.pure 7 (.pure 8 .done))))))))) (by kernel_rfl) ?_
      refine rw_p rfl rfl (y_move rfl) ?_
      refine rw_p rfl rfl (y_nil rfl) ?_
      refine rw_p rfl rfl (y_fieldAddr rfl fo64_0) ?_
      refine rw_p rfl rfl (y_fieldAddr rfl fo62_1) ?_
      refine rw_p rfl rfl (y_load rfl sc60 (nowT ((hm.to.same _ (Array.getElem?_eq_some_iff.1 hP).1 id).trans hP)) rfl) ?_
      refine rw_p rfl rfl (y_move rfl) ?_
      refine rw_p rfl rfl (y_index rfl rfl sl60 rfl (by omega) (by omega)) ?_
      refine rw_p rfl rfl (y_el1 rfl sc3 (hF.ext0 hm.to).nt encI_len hif rfl) ?_
      refine rw_p rfl rfl (y_assign rfl) ?_
      refine rw_done ?_
      refine gn_sq ?_
      refine HW_block rfl ?_
      refine HW_loopK (ι := Nat) rfl (ks := [0, 1, 4]) (.cons rfl (.cons rfl (.cons rfl .nil))) (fun x => [(7, .int .i64 x), (6, .int .i64 (Pl.wsum ((Pl.steps s 0 (xs.map CmdV.cm)).take x)))]) (fun x w => Mem w0 w No [] ∧ (x : Int) ≤ i) (fun x => i.toNat - x) (Pl.first s (xs.map CmdV.cm) k_).toNat (⟨hm, by omega⟩) ⟨(by rw [Int.toNat_of_nonneg hnn]; rfl), (by rw [hwf]; rfl), trivial⟩ (fun x w hM => ?_)
      obtain ⟨hm, hki⟩ := hM
      refine HW_seq rfl ?_
      refine HW_seq rfl ?_
      refine HW_text (.pure 0 (.pure 1 (.pure 2 .done))) (by kernel_rfl) ?_
      refine rw_p rfl rfl (y_move rfl) ?_
      refine rw_p rfl rfl (y_move rfl) ?_
      refine rw_p rfl rfl (y_lt rfl rfl) ?_
      refine rw_done ?_
      refine gn_sq ?_
      refine HW_cond rfl rfl (fun hc2 => ?_) (fun hc2 => ?_)
      ·
        simp only [decide_eq_true_eq] at hc2
        have hb8 := hwb x
        refine HW_skip rfl ?_
        refine gn_sq ?_
        refine HW_seq rfl ?_
        refine HW_block rfl ?_
        refine HW_seq rfl ?_
        refine HW_text (.pure 0 (.pure 1 (.act 2 (.pure 3 (.pure 4 (.pure 5 (.act 6 (.act 7 (.pure 8 .done))))))))) (by kernel_rfl) ?_
        refine rw_p rfl rfl (y_move rfl) ?_
        refine rw_p rfl rfl (y_move rfl) ?_
        refine a_call rfl rfl rfl go15 (p_at x m s _ cf _ cb _ cl xs _ ((hm.to.same _ (Array.getElem?_eq_some_iff.1 hP).1 id).trans hP) (hF.ext0 hm.to) (hB.ext0 hm.to) (hL.ext0 hm.to) hfw hmx (fun y hy => ⟨(hD y hy).1.ext hm.to, (hD y hy).2⟩) hs (by simp only [Pl.I64]; omega)) fun v w hR => ?_
        obtain ⟨ix_, k2_, d_, p_t, n_t, cap_t, g_t, b_t, rfl, ha_t, hmc, hg1, _⟩ := hR
        refine ⟨trivial, ?_⟩
        replace hm := hm.callN hmc
        obtain rfl := ha_t.lenB
        have hst := (hg1 (by omega)).2.2
        rw [Int.toNat_natCast] at hst
        have hnx := wsum_next hst
        have hb9 := hwb (x + 1)
        refine rw_p rfl rfl (y_move rfl) ?_
        refine rw_p rfl rfl (y_extract rfl rfl) ?_
        refine rw_p rfl rfl (y_extract rfl rfl) ?_
        refine a_alloc rfl rfl z36 hm trivial fun m1 w hg_m1 hm hh => ?_
        refine a_store rfl rfl rfl rfl sz36 rfl hm 0 rfl rfl fun w hm => ?_
        refine rw_p rfl rfl (y_assign rfl) ?_
        refine rw_done ?_
        refine gn_sq ?_
        refine HW_text (.pure 0 (.pure 1 (.pure 2 (.act 3 (.pure 4 (.pure 5 (.pure 6 .done))))))) (by kernel_rfl) ?_
        refine rw_p rfl rfl (y_move rfl) ?_
        refine rw_p rfl rfl (y_fieldAddr rfl fo36_2) ?_
        refine rw_p rfl rfl (y_loadA (s := 5) (vs := [_, _, _, _, _]) rfl ag34 (hm.nt 0 rfl) rfl) ?_
        refine a_call rfl rfl rfl go30 (c_target d_ p_t cap_t _) fun v w hR => ?_
        obtain ⟨rfl, hE⟩ := hR
        refine ⟨trivial, ?_⟩
        replace hm := hm.ext hE
        refine rw_p rfl rfl (y_fieldV rfl fv67_1 rfl) ?_
        refine rw_p rfl rfl (y_add rfl rfl (i64w (by omega) (by omega))) ?_
        refine rw_p rfl rfl (y_assign rfl) ?_
        refine rw_done ?_
        refine gn_bl ?_
        refine gn_sq ?_
        refine HW_text (.pure 0 (.pure 1 (.pure 2 .done))) (by kernel_rfl) ?_
        refine rw_p rfl rfl (y_move rfl) ?_
        refine rw_p rfl rfl (y_add rfl rfl (i64w (by omega) (by omega))) ?_
        refine rw_p rfl rfl (y_assign rfl) ?_
        refine rw_done ?_
        refine next (x + 1) (by omega) ⟨(hm.pick [] rfl), by omega⟩ ⟨nx x, by rw [hnx]; rfl, rfl, rfl, rfl, trivial⟩
      ·
        simp only [decide_eq_false_iff_not] at hc2
        obtain rfl : x = i.toNat := by omega
        refine HW_exit rfl ?_
        refine gx_sq (gx_lp ?_)
        refine gx_here ?_
        refine gn_sq ?_
        refine HW_seq rfl ?_
        refine HW_text (.pure 0 (.pure 1 .done)) (by kernel_rfl) ?_
        refine rw_p rfl rfl (y_move rfl) ?_
        refine rw_p rfl rfl (y_assign rfl) ?_
        refine rw_done ?_
        refine gn_sq ?_
        refine HW_ret rfl ?_
        refine toR (fin hret rfl (.tmp rfl .nil) .one ?_)
        exact ⟨rfl, hm.to⟩

theorem r18_written (q : Option Addr) (cq : Nat) (ts : List (Int × Int × CmdV)) (w0 : World) (hx : Rd w0 q (ts.flatMap encT)) (hl : ts.length ≤ 4611686018427387903) (n : Int) (hwb : ∀ j, 0 ≤ wsumT (ts.take j) ∧ wsumT (ts.take j) ≤ 4611686018427387903) : C Try.prog 20 [.slice q ts.length cq, .int .i64 n] w0 fun v w' => v = .int .i64 (wsumT (ts.take n.toNat)) ∧ Ext No w0 w' := by
  refine C_of Try.func20 rfl rfl rfl fun κ hret hnorm => ?_
  have hm := Mem.start w0
  refine HW_seq rfl ?_
  refine HW_text (.pure 0 .done) (by kernel_rfl) ?_
  refine rw_p rfl rfl (y_assign rfl) ?_
  refine rw_done ?_
  refine gn_sq ?_
  refine HW_seq rfl ?_
  refine HW_text (.pure 0 .done) (by kernel_rfl) ?_
  refine rw_p rfl rfl (y_assign rfl) ?_
  refine rw_done ?_
  refine gn_sq ?_
  refine HW_seq rfl ?_
  refine HW_seq rfl ?_
  refine HW_text (.pure 0 .done) (by kernel_rfl) ?_
  refine rw_p rfl rfl (y_assign rfl) ?_
  refine rw_done ?_
  refine gn_sq ?_
  refine HW_block rfl ?_
  refine HW_loopK (ι := Nat) rfl (ks := [0, 1, 4]) (.cons rfl (.cons rfl (.cons rfl .nil))) (fun x => [(6, .int .i64 x), (5, .int .i64 (wsumT (ts.take x)))]) (fun x w => Mem w0 w No [] ∧ x ≤ ts.length ∧ (x : Int) ≤ max n 0) (fun x => ts.length - x) 0 (⟨hm, Nat.zero_le _, by omega⟩) ⟨rfl, rfl, trivial⟩ (fun x w hM => ?_)
  obtain ⟨hm, hk, hkn⟩ := hM
  refine HW_seq rfl ?_
  refine HW_seq rfl ?_
  refine HW_text (.pure 0 (.pure 1 (.pure 2 (.pure 3 (.pure 4 (.pure 5 (.pure 6 (.pure 7 (.pure 8 .done))))))))) (by kernel_rfl) ?_
  refine rw_p rfl rfl (y_move rfl) ?_
  refine rw_p rfl rfl (y_move rfl) ?_
  refine rw_p rfl rfl (y_len rfl rfl sl29) ?_
  refine rw_p rfl rfl (y_lt rfl rfl) ?_
  refine rw_p rfl rfl (y_move rfl) ?_
  refine rw_g rfl rfl rfl (fun hc => (y_move rfl)) ?_
  refine rw_g rfl rfl rfl (fun hc => (y_move rfl)) ?_
  refine rw_g rfl rfl rfl (fun hc => (y_lt (gx hc rfl) (gx hc rfl))) ?_
  refine rw_p rfl rfl (y_and rfl rfl rfl) ?_
  refine rw_done ?_
  refine gn_sq ?_
  refine HW_cond rfl rfl (fun hc0 => ?_) (fun hc0 => ?_)
  ·
    simp only [Bool.and_eq_true, decide_eq_true_eq] at hc0
    obtain ⟨t, hi⟩ : ∃ y_, ts[x]? = some y_ := ⟨_, List.getElem?_eq_getElem (by omega)⟩
    obtain ⟨qb, qo, rfl⟩ := hx.atI encT_len (by decide) hi
    have hnx := wsumT_next hi
    have hb1 := hwb x
    have hb2 := hwb (x + 1)
    refine HW_skip rfl ?_
    refine gn_sq ?_
    refine HW_seq rfl ?_
    refine HW_block rfl ?_
    refine HW_text (.pure 0 (.pure 1 (.pure 2 (.pure 3 (.pure 4 (.pure 5 (.act 6 (.pure 7 (.pure 8 .done))))))))) (by kernel_rfl) ?_
    refine rw_p rfl rfl (y_move rfl) ?_
    refine rw_p rfl rfl (y_move rfl) ?_
    refine rw_p rfl rfl (y_move rfl) ?_
    refine rw_p rfl rfl (y_index rfl rfl sl29 rfl (by omega) (by omega)) ?_
    refine rw_p rfl rfl (y_fieldAddr rfl fo40_2) ?_
    refine rw_p rfl rfl (y_elAS (vs := [_, _, _, _, _]) rfl ag34 (hx.ext0 hm.to).nt encT_len hi rfl rfl) ?_
    refine a_call rfl rfl rfl go40 (r4_len t.2.2.cm t.2.2.d.p t.2.2.d.cap _) fun v w hR => ?_
    obtain ⟨rfl, hE⟩ := hR
    refine ⟨trivial, ?_⟩
    replace hm := hm.ext hE
    refine rw_p rfl rfl (y_add rfl rfl (i64w (by omega) (by omega))) ?_
    refine rw_p rfl rfl (y_assign rfl) ?_
    refine rw_done ?_
    refine gn_bl ?_
    refine gn_sq ?_
    refine HW_text (.pure 0 (.pure 1 (.pure 2 .done))) (by kernel_rfl) ?_
    refine rw_p rfl rfl (y_move rfl) ?_
    refine rw_p rfl rfl (y_add rfl rfl (i64w (by omega) (by omega))) ?_
    refine rw_p rfl rfl (y_assign rfl) ?_
    refine rw_done ?_
    refine next (x + 1) (by omega) ⟨hm, by omega, by omega⟩ ⟨nx x, by rw [hnx]; rfl, rfl, rfl, rfl, trivial⟩
  ·
    simp only [Bool.and_eq_false_iff, decide_eq_false_iff_not] at hc0
    have hte := take_end hk hkn hc0
    refine HW_exit rfl ?_
    refine gx_sq (gx_lp ?_)
    refine gx_here ?_
    refine gn_sq ?_
    refine HW_seq rfl ?_
    refine HW_text (.pure 0 (.pure 1 .done)) (by kernel_rfl) ?_
    refine rw_p rfl rfl (y_move rfl) ?_
    refine rw_p rfl rfl (y_assign rfl) ?_
    refine rw_done ?_
    refine gn_sq ?_
    refine HW_ret rfl ?_
    refine toR (fin hret rfl (.tmp rfl .nil) .one ?_)
    exact ⟨by rw [hte], hm.to⟩

set_option maxHeartbeats 400000 in
theorem r18_few (s : Int) (q : Option Addr) (cq : Nat) (xs : List CmdV) (w0 : World) (hx : Rd w0 q (xs.flatMap encC)) (hok : ∀ c ∈ xs, okC w0 c) (hl : xs.length ≤ 9223372036854775807) (hs : Pl.I64 s) : C Try.prog 9 [.int .i64 s, .slice q xs.length cq] w0 fun v w' => ∃ b, v = .bool b ∧ (b = true → xs.length ≤ 30 ∧ 1 ≤ s ∧ (∀ c ∈ xs, Pl.ccheck c.cm = 0 ∧ c.d.bs.length ≤ 300 ∧ Pl.chCount c.cm s ≤ 300) ∧ Pl.first s (xs.map CmdV.cm) xs.length ≤ 300) ∧ Ext No w0 w' := by
  refine C_of Try.func9 rfl rfl rfl fun κ hret hnorm => ?_
  have hm := Mem.start w0
  refine HW_seq rfl ?_
  refine HW_text (.pure 0 .done) (by kernel_rfl) ?_
  refine rw_p rfl rfl (y_assign rfl) ?_
  refine rw_done ?_
  refine gn_sq ?_
  refine HW_seq rfl ?_
  refine HW_seq rfl ?_
  refine HW_text (.pure 0 (.pure 1 (.pure 2 (.pure 3 (.pure 4 (.pure 5 (.pure 6 .done))))))) (by kernel_rfl) ?_
  refine rw_p rfl rfl (y_move rfl) ?_
  refine rw_p rfl rfl (y_len rfl rfl sl22) ?_
  refine rw_p rfl rfl (y_gt rfl rfl) ?_
  refine rw_p rfl rfl (y_move rfl) ?_
  refine rw_g rfl rfl rfl (fun hc => (y_move rfl)) ?_
  refine rw_g rfl rfl rfl (fun hc => (y_lt (gx hc rfl) rfl)) ?_
  refine rw_p rfl rfl (y_or rfl rfl rfl) ?_
  refine rw_done ?_
  refine gn_sq ?_
  refine HW_cond rfl rfl (fun hc0 => ?_) (fun hc0 => ?_)
  ·
    refine HW_seq rfl ?_
    refine HW_text (.pure 0 .done) (by kernel_rfl) ?_
    refine rw_p rfl rfl (y_assign rfl) ?_
    refine rw_done ?_
    refine gn_sq ?_
    refine HW_ret rfl ?_
    refine gr_sq ?_
    refine toR (fin hret rfl (.tmp rfl .nil) .one ?_)
    exact ⟨false, rfl, (fun h => absurd h (by simp)), hm.to⟩
  ·
    simp only [Bool.or_eq_false_iff, decide_eq_false_iff_not] at hc0
    refine HW_skip rfl ?_
    refine gn_sq ?_
    refine HW_seq rfl ?_
    refine HW_text (.pure 0 .done) (by kernel_rfl) ?_
    refine rw_p rfl rfl (y_assign rfl) ?_
    refine rw_done ?_
    refine gn_sq ?_
    refine HW_seq rfl ?_
    refine HW_seq rfl ?_
    refine HW_text (.pure 0 .done) (by kernel_rfl) ?_
    refine rw_p rfl rfl (y_assign rfl) ?_
    refine rw_done ?_
    refine gn_sq ?_
    refine HW_block rfl ?_
    refine HW_loopK (ι := Nat) rfl (ks := [0, 1]) (.cons rfl (.cons rfl .nil)) (fun k => [(6, .int .i64 k), (5, .int .i64 (Pl.first s (xs.map CmdV.cm) k))]) (fun k w => Mem w0 w No [] ∧ k ≤ xs.length ∧ (0 ≤ Pl.first s (xs.map CmdV.cm) k ∧ Pl.first s (xs.map CmdV.cm) k ≤ 300 * k) ∧ ∀ (j : Nat) c, j < k → xs[j]? = some c → Pl.ccheck c.cm = 0 ∧ c.d.bs.length ≤ 300 ∧ Pl.chCount c.cm s ≤ 300) (fun k => xs.length - k) 0 (⟨hm, Nat.zero_le _, by simp [Pl.first], fun _ _ h => absurd h (Nat.not_lt_zero _)⟩) ⟨rfl, (by simp [Pl.first]; rfl), trivial⟩ (fun k w hM => ?_)
    obtain ⟨hm, hk, hfk, hno⟩ := hM
    refine HW_seq rfl ?_
    refine HW_seq rfl ?_
    refine HW_text (.pure 0 (.pure 1 (.pure 2 (.pure 3 .done)))) (by kernel_rfl) ?_
    refine rw_p rfl rfl (y_move rfl) ?_
    refine rw_p rfl rfl (y_move rfl) ?_
    refine rw_p rfl rfl (y_len rfl rfl sl22) ?_
    refine rw_p rfl rfl (y_lt rfl rfl) ?_
    refine rw_done ?_
    refine gn_sq ?_
    refine HW_cond rfl rfl (fun hc1 => ?_) (fun hc1 => ?_)
    ·
      simp only [decide_eq_true_eq] at hc1
      obtain ⟨c, hi⟩ : ∃ y_, xs[k]? = some y_ := ⟨_, List.getElem?_eq_getElem (by omega)⟩
      obtain ⟨qb, qo, rfl⟩ := hx.atI encC_len (by decide) hi
      have hokc := hok c (List.mem_of_getElem? hi)
      have hb1 := hokc.2.2.2.2.le
      have hb2 := hokc.2.2.2.2.max
      have hcm : (xs.map CmdV.cm)[k]? = some c.cm := by rw [List.getElem?_map, hi]; rfl
      have hfn := Pl.first_next s hcm
      have k5 : c.cm.bs.length = c.d.bs.length := rfl
      refine HW_skip rfl ?_
      refine gn_sq ?_
      refine HW_seq rfl ?_
      refine HW_block rfl ?_
      refine HW_seq rfl ?_
      refine HW_seq rfl ?_
      by_cases hck : Pl.ccheck c.cm = 0
      by_cases hdl : c.d.bs.length ≤ 300
      rotate_left
      rotate_left
      ·
        refine HW_text (.pure 0 (.pure 1 (.pure 2 (.pure 3 (.act 4 (.pure 5 (.pure 6 (.pure 7 (.pure 8 (.pure 9 (.pure 10 (.pure 11 (.pure 12 (.pure 13 (.pure 14 (.pure 15 (.pure 16 (.pure 17 (.pure 18 (.pure 19 (.pure 20 (.act 21 (.pure 22 (.pure 23 .done)))))))))))))))))))))))) (by kernel_rfl) ?_
        refine rw_p rfl rfl (y_move rfl) ?_
        refine rw_p rfl rfl (y_move rfl) ?_
        refine rw_p rfl rfl (y_index rfl rfl sl22 rfl (by omega) (by omega)) ?_
        refine rw_p rfl rfl (y_elA rfl ag34 (hx.ext0 hm.to).nt encC_len hi) ?_
        refine a_call rfl rfl rfl go27 (r4_check c.cm c.d.p c.d.cap _ (by exact ⟨hokc.1, hokc.2.1, hokc.2.2.1, hokc.2.2.2.1⟩) (by omega)) fun v w hR => ?_
        obtain ⟨rfl, hE⟩ := hR
        refine ⟨trivial, ?_⟩
        replace hm := hm.ext hE
        refine rw_p rfl rfl (y_ne rfl rfl) ?_
        refine rw_p rfl rfl (y_as (c := true) (y_move rfl) (by simp [hck])) ?_
        refine rw_gf rfl rfl (by decide) rfl ?_
        refine rw_gf rfl rfl (by decide) rfl ?_
        refine rw_gf rfl rfl (by decide) rfl ?_
        refine rw_gf rfl rfl (by decide) rfl ?_
        refine rw_gf rfl rfl (by decide) rfl ?_
        refine rw_gf rfl rfl (by decide) rfl ?_
        refine rw_gf rfl rfl (by decide) rfl ?_
        refine rw_p rfl rfl (y_pickT rfl rfl) ?_
        refine rw_p rfl rfl (y_move rfl) ?_
        refine rw_gf rfl rfl (by decide) rfl ?_
        refine rw_gf rfl rfl (by decide) rfl ?_
        refine rw_gf rfl rfl (by decide) rfl ?_
        refine rw_gf rfl rfl (by decide) rfl ?_
        refine rw_gf rfl rfl (by decide) rfl ?_
        refine a_gf rfl rfl (by decide) rfl trivial ?_
        refine rw_gf rfl rfl (by decide) rfl ?_
        refine rw_p rfl rfl (y_pickT rfl rfl) ?_
        refine rw_done ?_
        refine gn_sq ?_
        refine HW_condT rfl rfl rfl ?_
        refine HW_seq rfl ?_
        refine HW_text (.pure 0 .done) (by kernel_rfl) ?_
        refine rw_p rfl rfl (y_assign rfl) ?_
        refine rw_done ?_
        refine gn_sq ?_
        refine HW_ret rfl ?_
        refine gr_sq (gr_bl (gr_sq (gr_lp (gr_bl (gr_sq ?_)))))
        refine toR (fin hret rfl (.tmp rfl .nil) .one ?_)
        exact ⟨false, rfl, (fun h => absurd h (by simp)), hm.to⟩
      ·
        have hcn := Pl.chCount_nonneg (s := s) hck
        refine HW_text (.pure 0 (.pure 1 (.pure 2 (.pure 3 (.act 4 (.pure 5 (.pure 6 (.pure 7 (.pure 8 (.pure 9 (.pure 10 (.pure 11 (.pure 12 (.pure 13 (.pure 14 (.pure 15 (.pure 16 (.pure 17 (.pure 18 (.pure 19 (.pure 20 (.act 21 (.pure 22 (.pure 23 .done)))))))))))))))))))))))) (by kernel_rfl) ?_
        refine rw_p rfl rfl (y_move rfl) ?_
        refine rw_p rfl rfl (y_move rfl) ?_
        refine rw_p rfl rfl (y_index rfl rfl sl22 rfl (by omega) (by omega)) ?_
        refine rw_p rfl rfl (y_elA rfl ag34 (hx.ext0 hm.to).nt encC_len hi) ?_
        refine a_call rfl rfl rfl go27 (r4_check c.cm c.d.p c.d.cap _ (by exact ⟨hokc.1, hokc.2.1, hokc.2.2.1, hokc.2.2.2.1⟩) (by omega)) fun v w hR => ?_
        obtain ⟨rfl, hE⟩ := hR
        refine ⟨trivial, ?_⟩
        replace hm := hm.ext hE
        refine rw_p rfl rfl (y_ne rfl rfl) ?_
        refine rw_p rfl rfl (y_as (c := false) (y_move rfl) (by simp [hck])) ?_
        refine rw_p rfl rfl (y_move rfl) ?_
        refine rw_p rfl rfl (y_move rfl) ?_
        refine rw_p rfl rfl (y_index rfl rfl sl22 rfl (by omega) (by omega)) ?_
        refine rw_p rfl rfl (y_fieldAddr rfl fo34_4) ?_
        refine rw_p rfl rfl (y_elS rfl sc32 (hx.ext0 hm.to).nt encC_len hi rfl) ?_
        refine rw_p rfl rfl (y_len rfl rfl sl32) ?_
        refine rw_p rfl rfl (y_gt rfl rfl) ?_
        refine rw_p rfl rfl (y_pickF rfl rfl) ?_
        refine rw_p rfl rfl (y_as (c := false) (y_move rfl) (decide_eq_false (by omega))) ?_
        refine rw_p rfl rfl (y_move rfl) ?_
        refine rw_p rfl rfl (y_move rfl) ?_
        refine rw_p rfl rfl (y_index rfl rfl sl22 rfl (by omega) (by omega)) ?_
        refine rw_p rfl rfl (y_elA rfl ag34 (hx.ext0 hm.to).nt encC_len hi) ?_
        refine rw_p rfl rfl (y_move rfl) ?_
        refine a_call rfl rfl rfl go28 (r17_count c.cm c.d.p c.d.cap s _ hck hs) fun v w hR => ?_
        obtain ⟨rfl, hE⟩ := hR
        refine ⟨trivial, ?_⟩
        replace hm := hm.ext hE
        refine rw_p rfl rfl (y_gt rfl rfl) ?_
        refine rw_p rfl rfl (y_pickF rfl rfl) ?_
        refine rw_done ?_
        refine gn_sq ?_
        refine HW_cond rfl rfl (fun hc2 => ?_) (fun hc2 => ?_)
        ·
          refine HW_seq rfl ?_
          refine HW_text (.pure 0 .done) (by kernel_rfl) ?_
          refine rw_p rfl rfl (y_assign rfl) ?_
          refine rw_done ?_
          refine gn_sq ?_
          refine HW_ret rfl ?_
          refine gr_sq (gr_bl (gr_sq (gr_lp (gr_bl (gr_sq ?_)))))
          refine toR (fin hret rfl (.tmp rfl .nil) .one ?_)
          exact ⟨false, rfl, (fun h => absurd h (by simp)), hm.to⟩
        ·
          simp only [decide_eq_false_iff_not] at hc2
          refine HW_skip rfl ?_
          refine gn_sq ?_
          refine HW_text (.pure 0 (.pure 1 (.pure 2 (.pure 3 (.pure 4 (.pure 5 (.act 6 (.pure 7 (.pure 8 .done))))))))) (by kernel_rfl) ?_
          refine rw_p rfl rfl (y_move rfl) ?_
          refine rw_p rfl rfl (y_move rfl) ?_
          refine rw_p rfl rfl (y_move rfl) ?_
          refine rw_p rfl rfl (y_index rfl rfl sl22 rfl (by omega) (by omega)) ?_
          refine rw_p rfl rfl (y_elA rfl ag34 (hx.ext0 hm.to).nt encC_len hi) ?_
          refine rw_p rfl rfl (y_move rfl) ?_
          refine a_call rfl rfl rfl go28 (r17_count c.cm c.d.p c.d.cap s _ hck hs) fun v w hR => ?_
          obtain ⟨rfl, hE⟩ := hR
          refine ⟨trivial, ?_⟩
          replace hm := hm.ext hE
          refine rw_p rfl rfl (y_add rfl rfl (i64w (by omega) (by omega))) ?_
          refine rw_p rfl rfl (y_assign rfl) ?_
          refine rw_done ?_
          refine gn_bl ?_
          refine gn_sq ?_
          refine HW_text (.pure 0 (.pure 1 (.pure 2 .done))) (by kernel_rfl) ?_
          refine rw_p rfl rfl (y_move rfl) ?_
          refine rw_p rfl rfl (y_add rfl rfl (i64w (by omega) (by omega))) ?_
          refine rw_p rfl rfl (y_assign rfl) ?_
          refine rw_done ?_
          refine next (k + 1) (by omega) ⟨hm, by omega, by omega, fun j d hj hd => ?_⟩ ⟨nx k, by rw [hfn]; rfl, rfl, rfl, trivial⟩
          rcases Nat.lt_or_ge j k with h | h
          · exact hno j d h hd
          · obtain rfl : j = k := by omega
            rw [hi] at hd; cases hd; exact ⟨hck, by omega, by omega⟩
      ·
        refine HW_text (.pure 0 (.pure 1 (.pure 2 (.pure 3 (.act 4 (.pure 5 (.pure 6 (.pure 7 (.pure 8 (.pure 9 (.pure 10 (.pure 11 (.pure 12 (.pure 13 (.pure 14 (.pure 15 (.pure 16 (.pure 17 (.pure 18 (.pure 19 (.pure 20 (.act 21 (.pure 22 (.pure 23 .done)))))))))))))))))))))))) (by kernel_rfl) ?_
        refine rw_p rfl rfl (y_move rfl) ?_
        refine rw_p rfl rfl (y_move rfl) ?_
        refine rw_p rfl rfl (y_index rfl rfl sl22 rfl (by omega) (by omega)) ?_
        refine rw_p rfl rfl (y_elA rfl ag34 (hx.ext0 hm.to).nt encC_len hi) ?_
        refine a_call rfl rfl rfl go27 (r4_check c.cm c.d.p c.d.cap _ (by exact ⟨hokc.1, hokc.2.1, hokc.2.2.1, hokc.2.2.2.1⟩) (by omega)) fun v w hR => ?_
        obtain ⟨rfl, hE⟩ := hR
        refine ⟨trivial, ?_⟩
        replace hm := hm.ext hE
        refine rw_p rfl rfl (y_ne rfl rfl) ?_
        refine rw_p rfl rfl (y_as (c := false) (y_move rfl) (by simp [hck])) ?_
        refine rw_p rfl rfl (y_move rfl) ?_
        refine rw_p rfl rfl (y_move rfl) ?_
        refine rw_p rfl rfl (y_index rfl rfl sl22 rfl (by omega) (by omega)) ?_
        refine rw_p rfl rfl (y_fieldAddr rfl fo34_4) ?_
        refine rw_p rfl rfl (y_elS rfl sc32 (hx.ext0 hm.to).nt encC_len hi rfl) ?_
        refine rw_p rfl rfl (y_len rfl rfl sl32) ?_
        refine rw_p rfl rfl (y_gt rfl rfl) ?_
        refine rw_p rfl rfl (y_pickF rfl rfl) ?_
        refine rw_p rfl rfl (y_as (c := true) (y_move rfl) (decide_eq_true (by omega))) ?_
        refine rw_gf rfl rfl (by decide) rfl ?_
        refine rw_gf rfl rfl (by decide) rfl ?_
        refine rw_gf rfl rfl (by decide) rfl ?_
        refine rw_gf rfl rfl (by decide) rfl ?_
        refine rw_gf rfl rfl (by decide) rfl ?_
        refine a_gf rfl rfl (by decide) rfl trivial ?_
        refine rw_gf rfl rfl (by decide) rfl ?_
        refine rw_p rfl rfl (y_pickT rfl rfl) ?_
        refine rw_done ?_
        refine gn_sq ?_
        refine HW_condT rfl rfl rfl ?_
        refine HW_seq rfl ?_
        refine HW_text (.pure 0 .done) (by kernel_rfl) ?_
        refine rw_p rfl rfl (y_assign rfl) ?_
        refine rw_done ?_
        refine gn_sq ?_
        refine HW_ret rfl ?_
        refine gr_sq (gr_bl (gr_sq (gr_lp (gr_bl (gr_sq ?_)))))
        refine toR (fin hret rfl (.tmp rfl .nil) .one ?_)
        exact ⟨false, rfl, (fun h => absurd h (by simp)), hm.to⟩
    ·
      simp only [decide_eq_false_iff_not] at hc1
      obtain rfl : k = xs.length := by omega
      have hall : ∀ c ∈ xs, Pl.ccheck c.cm = 0 ∧ c.d.bs.length ≤ 300 ∧ Pl.chCount c.cm s ≤ 300 := fun c hc => by (obtain ⟨j, hj⟩ := List.getElem?_of_mem hc; exact hno j c (List.getElem?_eq_some_iff.1 hj).1 hj)
      refine HW_exit rfl ?_
      refine gx_sq (gx_lp ?_)
      refine gx_here ?_
      refine gn_sq ?_
      refine HW_seq rfl ?_
      refine HW_text (.pure 0 (.pure 1 (.pure 2 .done))) (by kernel_rfl) ?_
      refine rw_p rfl rfl (y_move rfl) ?_
      refine rw_p rfl rfl (y_le rfl rfl) ?_
      refine rw_p rfl rfl (y_assign rfl) ?_
      refine rw_done ?_
      refine gn_sq ?_
      refine HW_ret rfl ?_
      refine toR (fin hret rfl (.tmp rfl .nil) .one ?_)
      exact ⟨_, rfl, fun h => ⟨by omega, (by omega), hall, (by simpa using h)⟩, hm.to⟩

set_option maxHeartbeats 800000 in
theorem r18_steps (s : Int) (q : Option Addr) (cq : Nat) (xs : List CmdV) (w0 : World) (hq : Rd w0 q (xs.flatMap encC)) (hok : ∀ c ∈ xs, Pl.ccheck c.cm = 0 ∧ c.d.ok w0 ∧ c.d.bs.length ≤ 140737488355328) (hs : Pl.I64 s) (hl : xs.length ≤ 1000000) (hbd : (Pl.steps s 0 (xs.map CmdV.cm)).length ≤ 1000000) : C Try.prog 13 [.int .i64 s, .slice q xs.length cq] w0 fun v w' => ∃ (ts : List (Int × Int × CmdV)) (p : Option Addr) (n cap g : Nat) (b : Blk) (B : List (Nat × Blk)), v = .slice p n cap ∧ Acc 40 7 p n cap (ts.flatMap encT) g b ∧ ts.map (fun t => (t.1, t.2.1, t.2.2.cm)) = stT 0 (Pl.steps s 0 (xs.map CmdV.cm)) ∧ (∀ t ∈ ts, Held B 5 t.2.2.d) ∧ Mem w0 w' No ((g, b) :: B) := by
  refine C_of Try.func13 rfl rfl rfl fun κ hret hnorm => ?_
  have hm := Mem.start w0
  refine HW_seq rfl ?_
  refine HW_text (.pure 0 .done) (by kernel_rfl) ?_
  refine rw_p rfl rfl (y_assign rfl) ?_
  refine rw_done ?_
  refine gn_sq ?_
  refine HW_seq rfl ?_
  refine HW_text (.pure 0 .done) (by kernel_rfl) ?_
  refine rw_p rfl rfl (y_assign rfl) ?_
  replace hm := hm.gapIn
  have ha_o := Acc.nil 40 7 none 0
  refine rw_done ?_
  refine gn_sq ?_
  refine HW_seq rfl ?_
  refine HW_seq rfl ?_
  refine HW_text (.pure 0 .done) (by kernel_rfl) ?_
  refine rw_p rfl rfl (y_assign rfl) ?_
  refine rw_done ?_
  refine gn_sq ?_
  refine HW_block rfl ?_
  refine HW_loopK (ι := Nat × Ow × List (Int × Int × CmdV) × List (Nat × Blk)) rfl (ks := [0, 1, 4]) (.cons rfl (.cons rfl (.cons rfl .nil))) (fun x => [(6, .int .i64 x.1), (5, .slice x.2.1.p x.2.1.n x.2.1.cap)]) (fun x w => Mem w0 w No ((x.2.1.g, x.2.1.b) :: x.2.2.2) ∧ Acc 40 7 x.2.1.p x.2.1.n x.2.1.cap (x.2.2.1.flatMap encT) x.2.1.g x.2.1.b ∧ x.2.2.1.map (fun t => (t.1, t.2.1, t.2.2.cm)) = stT 0 (Pl.steps s 0 ((xs.map CmdV.cm).take x.1)) ∧ (∀ t ∈ x.2.2.1, Held x.2.2.2 5 t.2.2.d) ∧ x.1 ≤ xs.length ∧ x.2.1.n = x.2.2.1.length) (fun x => xs.length - x.1) (0, ⟨none, 0, 0, 0, .gap⟩, [], []) (⟨hm, ha_o, rfl, by simp, Nat.zero_le _, rfl⟩) ⟨rfl, rfl, trivial⟩ (fun x w hM => ?_)
  obtain ⟨hm, ha_o, hxm, hH, hk, hn⟩ := hM
  refine HW_seq rfl ?_
  refine HW_seq rfl ?_
  refine HW_text (.pure 0 (.pure 1 (.pure 2 (.pure 3 .done)))) (by kernel_rfl) ?_
  refine rw_p rfl rfl (y_move rfl) ?_
  refine rw_p rfl rfl (y_move rfl) ?_
  refine rw_p rfl rfl (y_len rfl rfl sl22) ?_
  refine rw_p rfl rfl (y_lt rfl rfl) ?_
  refine rw_done ?_
  refine gn_sq ?_
  refine HW_cond rfl rfl (fun hc0 => ?_) (fun hc0 => ?_)
  ·
    simp only [decide_eq_true_eq] at hc0
    obtain ⟨c, hi⟩ : ∃ y_, xs[x.1]? = some y_ := ⟨_, List.getElem?_eq_getElem (by omega)⟩
    obtain ⟨qb, qo, rfl⟩ := hq.atI encC_len (by decide) hi
    obtain ⟨hc, hcd, hcl⟩ := hok c (List.mem_of_getElem? hi)
    have hcm : (xs.map CmdV.cm)[x.1]? = some c.cm := by rw [List.getElem?_map, hi]; rfl
    have hx9 := congrArg List.length hxm
    rw [List.length_map, stT_len] at hx9
    have hpre := steps_pre s (xs.map CmdV.cm) (x.1 + 1)
    rw [Pl.steps_next hcm, List.length_append, List.length_map] at hpre
    refine HW_skip rfl ?_
    refine gn_sq ?_
    refine HW_seq rfl ?_
    refine HW_block rfl ?_
    refine HW_seq rfl ?_
    refine HW_text (.pure 0 (.pure 1 (.pure 2 (.pure 3 (.pure 4 (.act 5 (.pure 6 .done))))))) (by kernel_rfl) ?_
    refine rw_p rfl rfl (y_move rfl) ?_
    refine rw_p rfl rfl (y_move rfl) ?_
    refine rw_p rfl rfl (y_index rfl rfl sl22 rfl (by omega) (by omega)) ?_
    refine rw_p rfl rfl (y_elA rfl ag34 (hq.ext0 hm.to).nt encC_len hi) ?_
    refine rw_p rfl rfl (y_move rfl) ?_
    refine a_call rfl rfl rfl go36 (r17_split c.cm c.d.p c.d.cap s _ hc (hcd.rd.ext0 hm.to) hcd.le hcd.spot hcl hs) fun v w hR => ?_
    obtain ⟨xs_t, p_t, n_t, cap_t, g_t, b_t, B_t, rfl, ha_t, hx_t, hh_t, hmc⟩ := hR
    refine ⟨trivial, ?_⟩
    replace hm := hm.callT1 hmc
    obtain rfl := ha_t.lenE encC_len (by decide)
    have hx8 := congrArg List.length hx_t
    rw [List.length_map] at hx8
    refine rw_p rfl rfl (y_assign rfl) ?_
    refine rw_done ?_
    refine gn_sq ?_
    refine HW_seq rfl ?_
    refine HW_text (.pure 0 .done) (by kernel_rfl) ?_
    refine rw_p rfl rfl (y_assign rfl) ?_
    refine rw_done ?_
    refine gn_sq ?_
    refine HW_block rfl ?_
    refine HW_loopK (ι := Nat × Ow × List (Int × Int × CmdV)) rfl (ks := [0, 1, 4, 6, 7]) (.cons rfl (.cons rfl (.cons rfl (.cons rfl (.cons rfl .nil))))) (fun y => [(8, .int .i64 y.1), (5, .slice y.2.1.p y.2.1.n y.2.1.cap)]) (fun y w => Mem w0 w No ((g_t, b_t) :: (y.2.1.g, y.2.1.b) :: (x.2.2.2 ++ B_t)) ∧ Acc 40 7 y.2.1.p y.2.1.n y.2.1.cap (y.2.2.flatMap encT) y.2.1.g y.2.1.b ∧ y.2.2.map (fun t => (t.1, t.2.1, t.2.2.cm)) = stT 0 (Pl.steps s 0 ((xs.map CmdV.cm).take x.1) ++ ((Pl.chunks c.cm s).take y.1).map (fun d => (x.1, d))) ∧ (∀ t ∈ y.2.2, Held (x.2.2.2 ++ B_t) 5 t.2.2.d) ∧ y.1 ≤ xs_t.length ∧ y.2.1.n = y.2.2.length) (fun y => xs_t.length - y.1) (0, x.2.1, x.2.2.1) (⟨(hm.pickT [0, 1] 2 rfl), ha_o, by simp [hxm], fun t ht => (hH t ht).left, Nat.zero_le _, hn⟩) ⟨rfl, rfl, trivial⟩ (fun y w hM => ?_)
    obtain ⟨hm, ha_o, hym, hH2, hyk, hn2⟩ := hM
    refine HW_seq rfl ?_
    refine HW_seq rfl ?_
    refine HW_text (.pure 0 (.pure 1 (.pure 2 (.pure 3 .done)))) (by kernel_rfl) ?_
    refine rw_p rfl rfl (y_move rfl) ?_
    refine rw_p rfl rfl (y_move rfl) ?_
    refine rw_p rfl rfl (y_len rfl rfl sl22) ?_
    refine rw_p rfl rfl (y_lt rfl rfl) ?_
    refine rw_done ?_
    refine gn_sq ?_
    refine HW_cond rfl rfl (fun hc1 => ?_) (fun hc1 => ?_)
    ·
      simp only [decide_eq_true_eq] at hc1
      obtain ⟨e, hj⟩ : ∃ y_, xs_t[y.1]? = some y_ := ⟨_, List.getElem?_eq_getElem (by omega)⟩
      obtain ⟨b2, o2, rfl⟩ := (ha_t.rd hm 0 rfl).atI encC_len (by decide) hj
      have hdj : (Pl.chunks c.cm s)[y.1]? = some e.cm := by rw [← hx_t, List.getElem?_map, hj]; rfl
      have hy9 := congrArg List.length hym
      rw [List.length_map, stT_len, List.length_append, List.length_map, List.length_take] at hy9
      refine HW_skip rfl ?_
      refine gn_sq ?_
      refine HW_seq rfl ?_
      refine HW_block rfl ?_
      refine HW_text (.pure 0 (.pure 1 (.pure 2 (.pure 3 (.pure 4 (.pure 5 (.pure 6 (.pure 7 (.pure 8 (.act 9 (.act 10 (.pure 11 .done)))))))))))) (by kernel_rfl) ?_
      refine rw_p rfl rfl (y_move rfl) ?_
      refine rw_p rfl rfl (y_move rfl) ?_
      refine rw_p rfl rfl (y_len rfl rfl sl29) ?_
      refine rw_p rfl rfl (y_move rfl) ?_
      refine rw_p rfl rfl (y_move rfl) ?_
      refine rw_p rfl rfl (y_move rfl) ?_
      refine rw_p rfl rfl (y_index rfl rfl sl22 rfl (by omega) (by omega)) ?_
      refine rw_p rfl rfl (y_elA rfl ag34 (ha_t.rd hm 0 rfl).nt encC_len hj) ?_
      refine rw_p rfl rfl (y_build (cs := [_, _, _, _, _, _, _]) z40 ft40 rfl rfl rfl rfl rfl) ?_
      refine a_buildSlice (l := [_, _, _, _, _, _, _]) rfl rfl sl29 z40 rfl rfl rfl rfl rfl rfl rfl hm trivial fun m1 w hg_m1 hm hh => ?_
      refine a_append rfl rfl rfl rfl rfl rfl sl29 sl29 z40 rfl rfl (Rd.row0 (hm.get (k := 0) rfl)) rfl ha_o hm 2 rfl (by omega) (by omega) fun p_o cap_o g_o b_o w ha_o hm => ?_
      refine rw_p rfl rfl (y_assign rfl) ?_
      refine rw_done ?_
      refine gn_bl ?_
      refine gn_sq ?_
      refine HW_text (.pure 0 (.pure 1 (.pure 2 .done))) (by kernel_rfl) ?_
      refine rw_p rfl rfl (y_move rfl) ?_
      refine rw_p rfl rfl (y_add rfl rfl (i64w (by omega) (by omega))) ?_
      refine rw_p rfl rfl (y_assign rfl) ?_
      refine rw_done ?_
      refine next (y.1 + 1, ⟨p_o, _, cap_o, g_o, b_o⟩, y.2.2 ++ [(((y.2.2.length : Nat) : Int), ((x.1 : Nat) : Int), e)]) (by simp only; omega) ⟨(hm.pickT [1, 2] 3 rfl), ha_o.to ?_, ?_, heldT hH2 (hh_t e (List.mem_of_getElem? hj)).right, by simp only; omega, by simp only [List.length_append, List.length_singleton]; omega⟩ ⟨nx y.1, rfl, rfl, rfl, rfl, rfl, rfl, trivial⟩
      · rw [← hn2]; simp [encT]
      · rw [List.map_append, hym, List.take_add_one, hdj, List.map_append, ← List.append_assoc, stT_app (Pl.steps s 0 ((xs.map CmdV.cm).take x.1) ++ ((Pl.chunks c.cm s).take y.1).map (fun d => (x.1, d))) _ 0, List.length_append, List.length_map, List.length_take]; simp [stT]; omega
    ·
      simp only [decide_eq_false_iff_not] at hc1
      have htk : (Pl.chunks c.cm s).take y.1 = Pl.chunks c.cm s := List.take_of_length_le (by omega)
      refine HW_exit rfl ?_
      refine gx_sq (gx_lp ?_)
      refine gx_here ?_
      refine gn_bl ?_
      refine gn_sq ?_
      refine HW_text (.pure 0 (.pure 1 (.pure 2 .done))) (by kernel_rfl) ?_
      refine rw_p rfl rfl (y_move rfl) ?_
      refine rw_p rfl rfl (y_add rfl rfl (i64w (by omega) (by omega))) ?_
      refine rw_p rfl rfl (y_assign rfl) ?_
      refine rw_done ?_
      refine next (x.1 + 1, y.2.1, y.2.2, x.2.2.2 ++ B_t) (by simp only; omega) ⟨(hm.pickT [1] 2 rfl), ha_o, ?_, hH2, by simp only; omega, hn2⟩ ⟨nx x.1, rfl, rfl, rfl, rfl, trivial⟩
      rw [hym, Pl.steps_next hcm, htk]
  ·
    simp only [decide_eq_false_iff_not] at hc0
    have hke : x.1 = (xs.map CmdV.cm).length := by rw [List.length_map]; omega
    rw [hke, List.take_length] at hxm
    refine HW_exit rfl ?_
    refine gx_sq (gx_lp ?_)
    refine gx_here ?_
    refine gn_sq ?_
    refine HW_seq rfl ?_
    refine HW_text (.pure 0 (.pure 1 .done)) (by kernel_rfl) ?_
    refine rw_p rfl rfl (y_move rfl) ?_
    refine rw_p rfl rfl (y_assign rfl) ?_
    refine rw_done ?_
    refine gn_sq ?_
    refine HW_ret rfl ?_
    refine toR (fin hret rfl (.tmp rfl .nil) .one ?_)
    exact ⟨x.2.2.1, _, _, _, _, _, x.2.2.2, rfl, ha_o, hxm, hH, hm⟩

end Go.Proofs.Ytpandemmaoeioaa
