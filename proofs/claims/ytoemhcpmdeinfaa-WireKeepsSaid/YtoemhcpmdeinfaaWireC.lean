/- Contracts of functions of the program: what each returns. Conditions: the hypotheses of each theorem. -/
import Derived.Test.YtoemhcpmdeinfaaWireB
set_option linter.unusedVariables false
set_option linter.unusedSimpArgs false
namespace Go.Proofs.Ytoemhcpmdeinfaa
open Go Go.Cx

theorem bt22_9 : bts Try.prog 22 9 = true := by kernel_rfl
theorem go30 : isGo Try.prog 30 = true := by kernel_rfl
theorem ag41 : aggS Try.prog 41 = some 2 := by kernel_rfl
theorem go12 : isGo Try.prog 12 = true := by kernel_rfl
theorem it3 : intO Try.prog 3 = some .i64 := by kernel_rfl
theorem go28 : isGo Try.prog 28 = true := by kernel_rfl
theorem ft59 : fldT Try.prog 59 = some [(0, 1), (1, 1), (2, 2)] := by kernel_rfl
theorem ft61 : fldT Try.prog 61 = some [(0, 4)] := by kernel_rfl
theorem z59 : zer Try.prog 59 = some [.slice none 0 0, .int .i64 0, .int .i64 0, .int .i64 0] := by kernel_rfl
theorem z61 : zer Try.prog 61 = some [.slice none 0 0, .int .i64 0, .int .i64 0, .int .i64 0] := by kernel_rfl

theorem b_equal (p q : Option Addr) (c1 c2 : Nat) (xs ys : List UInt8) (w0 : World) (hx : Rd w0 p (xs.flatMap encB)) (hy : Rd w0 q (ys.flatMap encB)) : C Try.prog 30 [.slice p xs.length c1, .slice q ys.length c2] w0 fun v w' => v = .bool (decide (xs = ys)) ∧ Ext No w0 w' := by
  refine C_of Try.func30 rfl rfl rfl fun k hret hnorm => ?_
  have hm := Mem.start w0
  refine HW_seq rfl ?_
  refine HW_text (.pure 0 .done) (by kernel_rfl) ?_
  refine rw_p rfl rfl (y_assign rfl) ?_
  refine rw_done ?_
  refine gn_sq ?_
  refine HW_seq rfl ?_
  refine HW_text (.pure 0 (.pure 1 (.pure 2 (.pure 3 (.pure 4 (.pure 5 .done)))))) (by kernel_rfl) ?_
  refine rw_p rfl rfl (y_move rfl) ?_
  refine rw_p rfl rfl (y_cvs rfl bt22_9 ((hx.ext0 hm.to).nt) rfl) ?_
  refine rw_p rfl rfl (y_move rfl) ?_
  refine rw_p rfl rfl (y_cvs rfl bt22_9 ((hy.ext0 hm.to).nt) rfl) ?_
  refine rw_p rfl rfl (y_seqB rfl rfl) ?_
  refine rw_p rfl rfl (y_assign rfl) ?_
  refine rw_done ?_
  refine gn_sq ?_
  refine HW_ret rfl ?_
  refine toR (fin hret rfl (.tmp rfl .nil) .one ?_)
  exact ⟨rfl, hm.to⟩

theorem b_prefix (p q : Option Addr) (c1 c2 : Nat) (xs ys : List UInt8) (w0 : World) (hx : Rd w0 p (xs.flatMap encB)) (hy : Rd w0 q (ys.flatMap encB)) (hc : xs.length ≤ c1) (hsp : c1 ≠ 0 → ∀ ad, p = some ad → ad.spot = none) : C Try.prog 28 [.slice p xs.length c1, .slice q ys.length c2] w0 fun v w' => v = .bool (decide (ys.length ≤ xs.length) && decide (xs.take ys.length = ys)) ∧ Ext No w0 w' := by
  refine C_of Try.func28 rfl rfl rfl fun k hret hnorm => ?_
  have hm := Mem.start w0
  refine HW_seq rfl ?_
  refine HW_text (.pure 0 .done) (by kernel_rfl) ?_
  refine rw_p rfl rfl (y_assign rfl) ?_
  refine rw_done ?_
  refine gn_sq ?_
  refine HW_seq rfl ?_
  refine HW_text (.pure 0 (.pure 1 (.pure 2 (.pure 3 (.pure 4 (.pure 5 (.pure 6 (.pure 7 (.pure 8 (.pure 9 (.pure 10 (.act 11 (.pure 12 (.pure 13 .done)))))))))))))) (by kernel_rfl) ?_
  refine rw_p rfl rfl (y_move rfl) ?_
  refine rw_p rfl rfl (y_len rfl rfl sl22) ?_
  refine rw_p rfl rfl (y_move rfl) ?_
  refine rw_p rfl rfl (y_len rfl rfl sl22) ?_
  refine rw_p rfl rfl (y_ge rfl rfl) ?_
  refine rw_p rfl rfl (y_move rfl) ?_
  refine rw_g rfl rfl rfl (fun hc => (y_move rfl)) ?_
  refine rw_g rfl rfl rfl (fun hc => (y_move rfl)) ?_
  refine rw_g rfl rfl rfl (fun hc => (y_len (gx hc rfl) rfl sl22)) ?_
  refine rw_g rfl rfl rfl (fun hc => (y_slice (ln := 0) (hn := ys.length) (gx hc rfl) sl22 rfl ⟨_, (gx hc rfl)⟩ (Nat.zero_le _) (by simp at hc; omega) (fun h => hsp (by omega)))) ?_
  refine rw_g rfl rfl rfl (fun hc => (y_move rfl)) ?_
  refine a_callG rfl rfl rfl (fun hc => (evs_c (gx hc rfl) (evs_c (gx hc rfl) evs_n))) go30 (fun hc => (C.eqv (b_equal p q c1 c2 (xs.take ys.length) ys _ ((hx.ext0 hm.to).takeB _) (hy.ext0 hm.to)) (by simp at hc; rw [List.length_take, Nat.min_eq_left (by omega), slp_zero' hsp]; rfl))) trivial fun w hE hh => ?_
  replace hm := hm.ext hE
  refine rw_p rfl rfl (y_and rfl rfl rfl) ?_
  refine rw_p rfl rfl (y_assign rfl) ?_
  refine rw_done ?_
  refine gn_sq ?_
  refine HW_ret rfl ?_
  refine toR (fin hret rfl (.tmp rfl .nil) .one ?_)
  exact ⟨congrArg Value.bool (by simp only [Int.ofNat_le]), hm.to⟩

theorem w_at (r e : Nat) (p : Option Addr) (n cap : Nat) (s : Pl.RS) (w0 : World) (hr : w0.heap[r]? = some (Blk.row e (rdV p n cap s)).toObj) : C Try.prog 14 [.pointer (some ⟨r, 0, none⟩)] w0 fun v w' => v = .int .i64 s.at_ ∧ Ext No w0 w' := by
  refine C_of Try.func14 rfl rfl rfl fun k hret hnorm => ?_
  have hm := Mem.start w0
  refine HW_seq rfl ?_
  refine HW_text (.pure 0 .done) (by kernel_rfl) ?_
  refine rw_p rfl rfl (y_assign rfl) ?_
  refine rw_done ?_
  refine gn_sq ?_
  refine HW_seq rfl ?_
  refine HW_seq rfl ?_
  refine HW_text (.pure 0 (.pure 1 .done)) (by kernel_rfl) ?_
  refine rw_p rfl rfl (y_move rfl) ?_
  refine rw_p rfl rfl (y_pnil rfl rfl pb32) ?_
  refine rw_done ?_
  refine gn_sq ?_
  refine HW_condF rfl rfl rfl ?_
  refine HW_skip rfl ?_
  refine gn_sq ?_
  refine HW_seq rfl ?_
  refine HW_text (.pure 0 (.pure 1 (.pure 2 (.pure 3 (.pure 4 (.pure 5 .done)))))) (by kernel_rfl) ?_
  refine rw_p rfl rfl (y_move rfl) ?_
  refine rw_p rfl rfl (y_nil rfl) ?_
  refine rw_p rfl rfl (y_fieldAddr rfl fo61_0) ?_
  refine rw_p rfl rfl (y_fieldAddr rfl fo59_1) ?_
  refine rw_p rfl rfl (y_load rfl sc3 (nowT ((hm.to.same _ (Array.getElem?_eq_some_iff.1 hr).1 id).trans hr)) rfl) ?_
  refine rw_p rfl rfl (y_assign rfl) ?_
  refine rw_done ?_
  refine gn_sq ?_
  refine HW_ret rfl ?_
  refine toR (fin hret rfl (.tmp rfl .nil) .one ?_)
  exact ⟨rfl, hm.to⟩

theorem w_rest (r e : Nat) (p : Option Addr) (n cap : Nat) (s : Pl.RS) (w0 : World) (hr : w0.heap[r]? = some (Blk.row e (rdV p n cap s)).toObj) (hat : s.at_ ≤ n) (hlen : n ≤ 140737488355328) : C Try.prog 13 [.pointer (some ⟨r, 0, none⟩)] w0 fun v w' => v = .int .i64 ((n : Int) - s.at_) ∧ Ext No w0 w' := by
  refine C_of Try.func13 rfl rfl rfl fun k hret hnorm => ?_
  have hm := Mem.start w0
  refine HW_seq rfl ?_
  refine HW_text (.pure 0 .done) (by kernel_rfl) ?_
  refine rw_p rfl rfl (y_assign rfl) ?_
  refine rw_done ?_
  refine gn_sq ?_
  refine HW_seq rfl ?_
  refine HW_seq rfl ?_
  refine HW_text (.pure 0 (.pure 1 .done)) (by kernel_rfl) ?_
  refine rw_p rfl rfl (y_move rfl) ?_
  refine rw_p rfl rfl (y_pnil rfl rfl pb32) ?_
  refine rw_done ?_
  refine gn_sq ?_
  refine HW_condF rfl rfl rfl ?_
  refine HW_skip rfl ?_
  refine gn_sq ?_
  refine HW_seq rfl ?_
  refine HW_draw (.pure 0 (.pure 1 (.pure 2 (.pure 3 (.pure 4 (.pure 5 (.pure 6 (.pure 7 (.pure 8 (.pure 9 (.pure 10 (.pure 11 (.pure 12 .done))))))))))))) No mix (by kernel_rfl) hm fun w hw hm0 hh => ?_
  have hm := hm0
  refine rw_p rfl rfl (y_move rfl) ?_
  refine rw_p rfl rfl (y_nil rfl) ?_
  refine rw_p rfl rfl (y_fieldAddr rfl fo61_0) ?_
  refine rw_p rfl rfl (y_fieldAddr rfl fo59_0) ?_
  refine rw_p rfl rfl (y_load rfl sc22 (fun u hu => ((hm0.to.trans hu).same _ (Array.getElem?_eq_some_iff.1 hr).1 id).trans hr) rfl) ?_
  refine rw_p rfl rfl (y_len rfl rfl sl22) ?_
  refine rw_p rfl rfl (y_move rfl) ?_
  refine rw_p rfl rfl (y_nil rfl) ?_
  refine rw_p rfl rfl (y_fieldAddr rfl fo61_0) ?_
  refine rw_p rfl rfl (y_fieldAddr rfl fo59_1) ?_
  refine rw_p rfl rfl (y_load rfl sc3 (fun u hu => ((hm0.to.trans hu).same _ (Array.getElem?_eq_some_iff.1 hr).1 id).trans hr) rfl) ?_
  refine rw_p rfl rfl (y_sub rfl rfl (i64w (by omega) (by omega))) ?_
  refine rw_p rfl rfl (y_assign rfl) ?_
  refine rw_done ?_
  refine gn_sq ?_
  refine HW_ret rfl ?_
  refine toR (fin hret rfl (.tmp rfl .nil) .one ?_)
  exact ⟨rfl, hm.to⟩

theorem w_fault (r e : Nat) (p : Option Addr) (n cap : Nat) (s : Pl.RS) (w0 : World) (hr : w0.heap[r]? = some (Blk.row e (rdV p n cap s)).toObj) : C Try.prog 15 [.pointer (some ⟨r, 0, none⟩)] w0 fun v w' => v = .agg ⟨[.int .i64 s.code, .int .i64 s.fat]⟩ ∧ Ext No w0 w' := by
  refine C_of Try.func15 rfl rfl rfl fun k hret hnorm => ?_
  have hm := Mem.start w0
  refine HW_seq rfl ?_
  refine HW_text (.act 0 .done) (by kernel_rfl) ?_
  refine a_alloc rfl rfl z41 hm trivial fun m1 w hg_m1 hm hh => ?_
  refine rw_done ?_
  refine gn_sq ?_
  refine HW_seq rfl ?_
  refine HW_seq rfl ?_
  refine HW_text (.pure 0 (.pure 1 .done)) (by kernel_rfl) ?_
  refine rw_p rfl rfl (y_move rfl) ?_
  refine rw_p rfl rfl (y_pnil rfl rfl pb32) ?_
  refine rw_done ?_
  refine gn_sq ?_
  refine HW_condF rfl rfl rfl ?_
  refine HW_skip rfl ?_
  refine gn_sq ?_
  refine HW_seq rfl ?_
  refine HW_text (.pure 0 (.pure 1 (.pure 2 (.pure 3 (.pure 4 (.act 5 .done)))))) (by kernel_rfl) ?_
  refine rw_p rfl rfl (y_move rfl) ?_
  refine rw_p rfl rfl (y_nil rfl) ?_
  refine rw_p rfl rfl (y_fieldAddr rfl fo61_0) ?_
  refine rw_p rfl rfl (y_fieldAddr rfl fo59_2) ?_
  refine rw_p rfl rfl (y_loadA (s := 2) (vs := [_, _]) rfl ag41 (nowT ((hm.to.same _ (Array.getElem?_eq_some_iff.1 hr).1 id).trans hr)) rfl) ?_
  refine a_store rfl rfl rfl rfl sz41 rfl hm 0 rfl rfl fun w hm => ?_
  refine rw_done ?_
  refine gn_sq ?_
  refine HW_ret rfl ?_
  refine toR (fin hret rfl (.cell rfl (run_loadVar_a (vs := [_, _]) ag41 (hm.get (k := 0) rfl) rfl) .nil) .one ?_)
  exact ⟨rfl, hm.to⟩

theorem w_Fail (r e : Nat) (p : Option Addr) (n cap : Nat) (s : Pl.RS) (c a : Int) (w0 : World) (hr : w0.heap[r]? = some (Blk.row e (rdV p n cap s)).toObj) : C Try.prog 17 [.pointer (some ⟨r, 0, none⟩), .int .i64 c, .int .i64 a] w0 fun v w' => v = .tuple ⟨[]⟩ ∧ Mem w0 w' (fun k => k = r) [(r, .row e (rdV p n cap (s.fail c a)))] := by
  refine C_of Try.func17 rfl rfl rfl fun k hret hnorm => ?_
  have hm := Mem.start1 hr
  refine HW_seq rfl ?_
  refine HW_text (.pure 0 (.pure 1 .done)) (by kernel_rfl) ?_
  refine rw_p rfl rfl (y_move rfl) ?_
  refine rw_p rfl rfl (y_pnnil rfl rfl pb32) ?_
  refine rw_done ?_
  refine gn_sq ?_
  refine HW_condT rfl rfl rfl ?_
  refine HW_text (.pure 0 (.pure 1 (.pure 2 (.pure 3 (.pure 4 (.act 5 .done)))))) (by kernel_rfl) ?_
  refine rw_p rfl rfl (y_move rfl) ?_
  refine rw_p rfl rfl (y_nil rfl) ?_
  refine rw_p rfl rfl (y_fieldAddr rfl fo61_0) ?_
  refine rw_p rfl rfl (y_move rfl) ?_
  refine rw_p rfl rfl (y_move rfl) ?_
  refine a_call rfl rfl rfl go27 (w_fail _ _ _ _ _ s _ _ _ (hm.get (k := 0) rfl)) fun v w hR => ?_
  obtain ⟨rfl, hmc⟩ := hR
  refine ⟨trivial, ?_⟩
  replace hm := hm.callJ 0 rfl hmc
  refine rw_done ?_
  refine toN (fin hnorm rfl .nil .nil ?_)
  exact ⟨rfl, hm⟩

theorem w_length (r e : Nat) (p : Option Addr) (cap : Nat) (bs : List UInt8) (s : Pl.RS) (w0 : World) (hr : w0.heap[r]? = some (Blk.row e (rdV p bs.length cap s)).toObj) (hd : Rd w0 p (bs.flatMap encB)) (hne : bs.flatMap encB ≠ [] → ∀ ad, p = some ad → ad.block ≠ r) (hcap : bs.length ≤ cap) (hsp : cap ≠ 0 → ∀ ad, p = some ad → ad.spot = none) (hat : s.at_ ≤ bs.length) (hlen : bs.length ≤ 140737488355328) : C Try.prog 18 [.pointer (some ⟨r, 0, none⟩)] w0 fun v w' => v = .int .i64 (Pl.rlength bs s).2 ∧ Mem w0 w' (fun k => k = r) [(r, .row e (rdV p bs.length cap (Pl.rlength bs s).1))] := by
  refine C_of Try.func18 rfl rfl rfl fun k hret hnorm => ?_
  have hm := Mem.start1 hr
  refine HW_seq rfl ?_
  refine HW_text (.pure 0 .done) (by kernel_rfl) ?_
  refine rw_p rfl rfl (y_assign rfl) ?_
  refine rw_done ?_
  refine gn_sq ?_
  refine HW_seq rfl ?_
  refine HW_seq rfl ?_
  refine HW_text (.pure 0 (.pure 1 .done)) (by kernel_rfl) ?_
  refine rw_p rfl rfl (y_move rfl) ?_
  refine rw_p rfl rfl (y_pnil rfl rfl pb32) ?_
  refine rw_done ?_
  refine gn_sq ?_
  refine HW_condF rfl rfl rfl ?_
  refine HW_skip rfl ?_
  refine gn_sq ?_
  refine HW_seq rfl ?_
  refine HW_text (.pure 0 (.pure 1 (.pure 2 (.pure 3 (.pure 4 (.pure 5 .done)))))) (by kernel_rfl) ?_
  refine rw_p rfl rfl (y_move rfl) ?_
  refine rw_p rfl rfl (y_nil rfl) ?_
  refine rw_p rfl rfl (y_fieldAddr rfl fo61_0) ?_
  refine rw_p rfl rfl (y_fieldAddr rfl fo59_1) ?_
  refine rw_p rfl rfl (y_load rfl sc3 (hm.nt 0 rfl) rfl) ?_
  refine rw_p rfl rfl (y_assign rfl) ?_
  refine rw_done ?_
  refine gn_sq ?_
  refine HW_seq rfl ?_
  refine HW_text (.pure 0 (.act 1 (.pure 2 .done))) (by kernel_rfl) ?_
  refine rw_p rfl rfl (y_move rfl) ?_
  refine a_call rfl rfl rfl go12 (w_uint r e p cap bs s 8 _ (hm.get (k := 0) rfl) (hd.extN hm.to hne) hne hcap hsp hat hlen (by omega)) fun v w hR => ?_
  obtain ⟨rfl, hmc⟩ := hR
  refine ⟨trivial, ?_⟩
  replace hm := hm.callJ 0 rfl hmc
  have hub := Pl.ruint_bnd bs s 8
  refine rw_p rfl rfl (y_assign rfl) ?_
  refine rw_done ?_
  refine gn_sq ?_
  refine HW_seq rfl ?_
  refine HW_seq rfl ?_
  refine HW_text (.pure 0 (.pure 1 .done)) (by kernel_rfl) ?_
  refine rw_p rfl rfl (y_move rfl) ?_
  refine rw_p rfl rfl (y_gt rfl rfl) ?_
  refine rw_done ?_
  refine gn_sq ?_
  refine HW_cond rfl rfl (fun hc1 => ?_) (fun hc1 => ?_)
  ·
    simp only [Bool.and_eq_true, Bool.or_eq_true, Bool.and_eq_false_iff, Bool.or_eq_false_iff, Bool.not_eq_true', Bool.not_eq_false', decide_eq_true_eq, decide_eq_false_iff_not] at hc1
    refine HW_seq rfl ?_
    refine HW_text (.pure 0 (.pure 1 (.pure 2 (.pure 3 (.act 4 .done))))) (by kernel_rfl) ?_
    refine rw_p rfl rfl (y_move rfl) ?_
    refine rw_p rfl rfl (y_nil rfl) ?_
    refine rw_p rfl rfl (y_fieldAddr rfl fo61_0) ?_
    refine rw_p rfl rfl (y_move rfl) ?_
    refine a_call rfl rfl rfl go27 (w_fail r e p bs.length cap (Pl.ruint bs s 8).1 2 s.at_ _ (hm.get (k := 0) rfl)) fun v w hR => ?_
    obtain ⟨rfl, hmc⟩ := hR
    refine ⟨trivial, ?_⟩
    replace hm := hm.callJ 0 rfl hmc
    refine rw_done ?_
    refine gn_sq ?_
    refine HW_seq rfl ?_
    refine HW_text (.pure 0 .done) (by kernel_rfl) ?_
    refine rw_p rfl rfl (y_assign rfl) ?_
    refine rw_done ?_
    refine gn_sq ?_
    refine HW_ret rfl ?_
    refine gr_sq ?_
    refine toR (fin hret rfl (.tmp rfl .nil) .one ?_)
    have e2 : Pl.rlength bs s = ((Pl.ruint bs s 8).1.fail 2 s.at_, 0) := by unfold Pl.rlength; rw [if_pos hc1]
    rw [e2]; exact ⟨rfl, hm⟩
  ·
    simp only [Bool.and_eq_true, Bool.or_eq_true, Bool.and_eq_false_iff, Bool.or_eq_false_iff, Bool.not_eq_true', Bool.not_eq_false', decide_eq_true_eq, decide_eq_false_iff_not] at hc1
    refine HW_skip rfl ?_
    refine gn_sq ?_
    refine HW_seq rfl ?_
    refine HW_text (.pure 0 (.pure 1 (.pure 2 .done))) (by kernel_rfl) ?_
    refine rw_p rfl rfl (y_move rfl) ?_
    refine rw_p rfl rfl (y_conv rfl is34 it3 (i64w (by omega) (by omega))) ?_
    refine rw_p rfl rfl (y_assign rfl) ?_
    refine rw_done ?_
    refine gn_sq ?_
    refine HW_ret rfl ?_
    refine toR (fin hret rfl (.tmp rfl .nil) .one ?_)
    have e2 : Pl.rlength bs s = Pl.ruint bs s 8 := by unfold Pl.rlength; rw [if_neg hc1]
    rw [e2]; exact ⟨rfl, hm⟩

theorem w_bytes (r e : Nat) (p : Option Addr) (cap : Nat) (bs : List UInt8) (s : Pl.RS) (m : Int) (w0 : World) (hr : w0.heap[r]? = some (Blk.row e (rdV p bs.length cap s)).toObj) (hd : Rd w0 p (bs.flatMap encB)) (hne : bs.flatMap encB ≠ [] → ∀ ad, p = some ad → ad.block ≠ r) (hcap : bs.length ≤ cap) (hsp : cap ≠ 0 → ∀ ad, p = some ad → ad.spot = none) (hat : s.at_ ≤ bs.length) (hlen : bs.length ≤ 140737488355328) (hm64 : Pl.I64 m) : C Try.prog 19 [.pointer (some ⟨r, 0, none⟩), .int .i64 m] w0 fun v w' => ∃ q n c g b, v = .slice q n c ∧ Acc 5 1 q n c ((Pl.rbytes bs s m).2.flatMap encB) g b ∧ Mem w0 w' (fun k => k = r) [(r, .row e (rdV p bs.length cap (Pl.rbytes bs s m).1)), (g, b)] := by
  refine C_of Try.func19 rfl rfl rfl fun k hret hnorm => ?_
  have hm := Mem.start1 hr
  refine HW_seq rfl ?_
  refine HW_text (.pure 0 .done) (by kernel_rfl) ?_
  refine rw_p rfl rfl (y_assign rfl) ?_
  refine rw_done ?_
  refine gn_sq ?_
  refine HW_seq rfl ?_
  refine HW_seq rfl ?_
  refine HW_text (.pure 0 (.pure 1 .done)) (by kernel_rfl) ?_
  refine rw_p rfl rfl (y_move rfl) ?_
  refine rw_p rfl rfl (y_pnil rfl rfl pb32) ?_
  refine rw_done ?_
  refine gn_sq ?_
  refine HW_condF rfl rfl rfl ?_
  refine HW_skip rfl ?_
  refine gn_sq ?_
  refine HW_seq rfl ?_
  refine HW_text (.pure 0 (.pure 1 (.pure 2 (.pure 3 (.act 4 (.pure 5 (.pure 6 (.pure 7 (.pure 8 (.pure 9 .done)))))))))) (by kernel_rfl) ?_
  refine rw_p rfl rfl (y_move rfl) ?_
  refine rw_p rfl rfl (y_nil rfl) ?_
  refine rw_p rfl rfl (y_fieldAddr rfl fo61_0) ?_
  refine rw_p rfl rfl (y_move rfl) ?_
  refine a_call rfl rfl rfl go25 (w_take r e p bs.length cap s m _ (hm.get (k := 0) rfl) hcap hsp hat hlen hm64) fun v w hR => ?_
  obtain ⟨rfl, hmc⟩ := hR
  refine ⟨trivial, ?_⟩
  replace hm := hm.callJ 0 rfl hmc
  refine rw_p rfl rfl (y_move rfl) ?_
  refine rw_p rfl rfl (y_extract rfl rfl) ?_
  refine rw_p rfl rfl (y_extract rfl rfl) ?_
  refine rw_p rfl rfl (y_assign rfl) ?_
  refine rw_p rfl rfl (y_assign rfl) ?_
  refine rw_done ?_
  refine gn_sq ?_
  refine HW_seq rfl ?_
  rcases hok : (Pl.rtake bs.length s m).2 with _ | _
  ·
    have e2 : (Pl.rbytes bs s m).2 = [] := by unfold Pl.rbytes; rw [hok]; rfl
    refine HW_text (.pure 0 (.act 1 (.pure 2 .done))) (by kernel_rfl) ?_
    refine rw_p rfl rfl (y_v (y_move rfl) (show _ = Value.slice none ([] : List UInt8).length 0 from rfl)) ?_
    refine a_call rfl rfl rfl go23 (clone_b none 0 [] _ rfl (by simp)) fun v w hR => ?_
    obtain ⟨p_s1, cap_s1, g_s1, b_s1, rfl, ha_s1, hmc⟩ := hR
    refine ⟨trivial, ?_⟩
    have hg_s1 : b_s1.real = true → _ := fun hr => (hmc.fresh _ List.mem_cons_self hr).resolve_left id
    replace hm := hm.callN hmc
    refine rw_p rfl rfl (y_assign rfl) ?_
    refine rw_done ?_
    refine gn_sq ?_
    refine HW_ret rfl ?_
    refine toR (fin hret rfl (.tmp rfl .nil) .one ?_)
    exact ⟨_, _, _, _, _, rfl, by rw [e2]; exact ha_s1, (hm.pick [1, 0] rfl)⟩
  ·
    obtain ⟨hc0, hu0, hu1, hst⟩ := Pl.rtake_ok hok
    have hcs : Rd w0 (slp p cap s.at_ 1) (((bs.drop s.at_).take m.toNat).flatMap encB) := hd.sub hcap
    have hcl : ((bs.drop s.at_).take m.toNat).length = m.toNat := by rw [List.length_take, List.length_drop]; omega
    generalize hbs : (bs.drop s.at_).take m.toNat = cs at hcs hcl
    obtain ⟨pp, hpp⟩ : ∃ pp, slp p cap s.at_ 1 = pp := ⟨_, rfl⟩
    rw [hpp] at hcs
    have hne' : cs.flatMap encB ≠ [] → ∀ ad, pp = some ad → ¬ ad.block = r := fun h ad e => by
      obtain ⟨a2, e2, e3⟩ := slp_block (hpp.trans e)
      rw [← e3]
      exact hne (fun e4 => by rw [nilB e4] at hbs; simp at hbs; rw [hbs] at h; exact h rfl) a2 e2
    have e2 : (Pl.rbytes bs s m).2 = cs := by unfold Pl.rbytes; rw [if_pos hok, hbs]
    refine HW_text (.pure 0 (.act 1 (.pure 2 .done))) (by kernel_rfl) ?_
    refine rw_p rfl rfl (y_v (y_move rfl) (show _ = Value.slice pp cs.length (cap - s.at_) by rw [hcl, ← hpp]; rfl)) ?_
    refine a_call rfl rfl rfl go23 (clone_b pp (cap - s.at_) cs _ (hcs.extN hm.to hne') (by omega)) fun v w hR => ?_
    obtain ⟨p_s1, cap_s1, g_s1, b_s1, rfl, ha_s1, hmc⟩ := hR
    refine ⟨trivial, ?_⟩
    have hg_s1 : b_s1.real = true → _ := fun hr => (hmc.fresh _ List.mem_cons_self hr).resolve_left id
    replace hm := hm.callN hmc
    refine rw_p rfl rfl (y_assign rfl) ?_
    refine rw_done ?_
    refine gn_sq ?_
    refine HW_ret rfl ?_
    refine toR (fin hret rfl (.tmp rfl .nil) .one ?_)
    exact ⟨_, _, _, _, _, rfl, by rw [e2]; exact ha_s1, (hm.pick [1, 0] rfl)⟩

theorem w_expect (r e : Nat) (p : Option Addr) (cap : Nat) (bs : List UInt8) (s : Pl.RS) (q : Option Addr) (cq : Nat) (ds : List UInt8) (c : Int) (w0 : World) (hr : w0.heap[r]? = some (Blk.row e (rdV p bs.length cap s)).toObj) (hd : Rd w0 p (bs.flatMap encB)) (hne : bs.flatMap encB ≠ [] → ∀ ad, p = some ad → ad.block ≠ r) (hcap : bs.length ≤ cap) (hsp : cap ≠ 0 → ∀ ad, p = some ad → ad.spot = none) (hat : s.at_ ≤ bs.length) (hlen : bs.length ≤ 140737488355328) (hds : Rd w0 q (ds.flatMap encB)) (hqr : ds.flatMap encB ≠ [] → ∀ ad, q = some ad → ad.block ≠ r) (hdl : ds.length ≤ 140737488355328) (hdc : ds.length ≤ cq) (hdp : cq ≠ 0 → ∀ ad, q = some ad → ad.spot = none) : C Try.prog 20 [.pointer (some ⟨r, 0, none⟩), .slice q ds.length cq, .int .i64 c] w0 fun v w' => v = .bool (Pl.rexpect bs s ds c).2 ∧ Mem w0 w' (fun k => k = r) [(r, .row e (rdV p bs.length cap (Pl.rexpect bs s ds c).1))] := by
  refine C_of Try.func20 rfl rfl rfl fun k hret hnorm => ?_
  have hm := Mem.start1 hr
  refine HW_seq rfl ?_
  refine HW_text (.pure 0 .done) (by kernel_rfl) ?_
  refine rw_p rfl rfl (y_assign rfl) ?_
  refine rw_done ?_
  refine gn_sq ?_
  refine HW_seq rfl ?_
  refine HW_seq rfl ?_
  refine HW_text (.pure 0 (.pure 1 (.pure 2 (.pure 3 (.pure 4 (.pure 5 (.pure 6 (.pure 7 (.pure 8 (.pure 9 (.pure 10 .done))))))))))) (by kernel_rfl) ?_
  refine rw_p rfl rfl (y_move rfl) ?_
  refine rw_p rfl rfl (y_pnil rfl rfl pb32) ?_
  refine rw_p rfl rfl (y_move rfl) ?_
  refine rw_p rfl rfl (y_move rfl) ?_
  refine rw_p rfl rfl (y_nil rfl) ?_
  refine rw_p rfl rfl (y_fieldAddr rfl fo61_0) ?_
  refine rw_p rfl rfl (y_fieldAddr rfl fo59_2) ?_
  refine rw_p rfl rfl (y_fieldAddr rfl fo41_0) ?_
  refine rw_p rfl rfl (y_load rfl sc39 (hm.nt 0 rfl) rfl) ?_
  refine rw_p rfl rfl (y_ne rfl rfl) ?_
  refine rw_p rfl rfl (y_pickF rfl rfl) ?_
  refine rw_done ?_
  refine gn_sq ?_
  refine HW_cond rfl rfl (fun hc0 => ?_) (fun hc0 => ?_)
  ·
    simp only [Bool.and_eq_true, Bool.or_eq_true, Bool.and_eq_false_iff, Bool.or_eq_false_iff, Bool.not_eq_true', Bool.not_eq_false', decide_eq_true_eq, decide_eq_false_iff_not] at hc0
    refine HW_seq rfl ?_
    refine HW_text (.pure 0 .done) (by kernel_rfl) ?_
    refine rw_p rfl rfl (y_assign rfl) ?_
    refine rw_done ?_
    refine gn_sq ?_
    refine HW_ret rfl ?_
    refine gr_sq ?_
    refine toR (fin hret rfl (.tmp rfl .nil) .one ?_)
    exact ⟨by rw [Pl.rexpect_bad hc0], by rw [Pl.rexpect_bad hc0]; exact hm⟩
  ·
    simp only [Bool.and_eq_true, Bool.or_eq_true, Bool.and_eq_false_iff, Bool.or_eq_false_iff, Bool.not_eq_true', Bool.not_eq_false', decide_eq_true_eq, decide_eq_false_iff_not] at hc0
    refine HW_skip rfl ?_
    refine gn_sq ?_
    refine HW_seq rfl ?_
    refine HW_seq rfl ?_
    refine HW_draw (.pure 0 (.pure 1 (.pure 2 (.pure 3 (.pure 4 (.pure 5 (.pure 6 (.pure 7 (.pure 8 (.pure 9 (.pure 10 (.pure 11 .done)))))))))))) No mix (by kernel_rfl) hm fun w hw hm0 hh => ?_
    have hm := hm0
    refine rw_p rfl rfl (y_move rfl) ?_
    refine rw_p rfl rfl (y_nil rfl) ?_
    refine rw_p rfl rfl (y_fieldAddr rfl fo61_0) ?_
    refine rw_p rfl rfl (y_fieldAddr rfl fo59_0) ?_
    refine rw_p rfl rfl (y_load rfl sc22 (hm0.nd 0 rfl id) rfl) ?_
    refine rw_p rfl rfl (y_move rfl) ?_
    refine rw_p rfl rfl (y_nil rfl) ?_
    refine rw_p rfl rfl (y_fieldAddr rfl fo61_0) ?_
    refine rw_p rfl rfl (y_fieldAddr rfl fo59_1) ?_
    refine rw_p rfl rfl (y_load rfl sc3 (hm0.nd 0 rfl id) rfl) ?_
    refine rw_p rfl rfl (y_slice (ln := s.at_) (hn := bs.length) rfl sl22 ⟨_, rfl⟩ rfl (by omega) hcap (fun h => hsp (by omega))) ?_
    refine rw_p rfl rfl (y_assign rfl) ?_
    refine rw_done ?_
    refine gn_sq ?_
    refine HW_seq rfl ?_
    have hl2 : ((bs.drop s.at_).take (min ds.length (bs.length - s.at_))).length = min ds.length (bs.length - s.at_) := by rw [List.length_take, List.length_drop]; omega
    ·
      refine HW_text (.pure 0 (.pure 1 (.pure 2 (.pure 3 (.pure 4 (.pure 5 (.pure 6 (.pure 7 (.act 8 (.pure 9 .done)))))))))) (by kernel_rfl) ?_
      refine rw_p rfl rfl (y_move rfl) ?_
      refine rw_p rfl rfl (y_move rfl) ?_
      refine rw_p rfl rfl (y_move rfl) ?_
      refine rw_p rfl rfl (y_len rfl rfl sl22) ?_
      refine rw_p rfl rfl (y_move rfl) ?_
      refine rw_p rfl rfl (y_len rfl rfl sl22) ?_
      refine rw_p rfl rfl (y_min rfl rfl) ?_
      refine rw_p rfl rfl (y_slice (ln := 0) (hn := min ds.length (bs.length - s.at_)) rfl sl22 rfl ⟨_, congrArg (fun x => some (Value.int .i64 x)) (by omega)⟩ (Nat.zero_le _) (by omega) (fun h ad e => slp_spot (fun _ => hsp (by omega)) (show cap ≠ s.at_ by omega) e)) ?_
      refine a_call rfl rfl rfl go28 (C.eqv (b_prefix q (slp p cap s.at_ 1) cq (cap - s.at_) ds ((bs.drop s.at_).take (min ds.length (bs.length - s.at_))) _ (hds.extN hm.to hqr) ((hd.extN hm.to hne).sub hcap) hdc hdp) (by rw [hl2, slp_zero' (fun h ad e => slp_spot (fun _ => hsp (by omega)) (show cap ≠ s.at_ by omega) e)]; rfl)) fun v w hR => ?_
      obtain ⟨rfl, hE⟩ := hR
      refine ⟨trivial, ?_⟩
      replace hm := hm.ext hE
      refine rw_p rfl rfl (y_not rfl) ?_
      refine rw_done ?_
      refine gn_sq ?_
      refine HW_cond rfl rfl (fun hc1 => ?_) (fun hc1 => ?_)
      ·
        simp only [Bool.not_eq_true', hl2] at hc1
        have hne2 : ds.take (min ds.length (bs.length - s.at_)) ≠ (bs.drop s.at_).take (min ds.length (bs.length - s.at_)) := fun e => by rw [decide_eq_true e, decide_eq_true (Nat.min_le_left _ _)] at hc1; cases hc1
        refine HW_seq rfl ?_
        refine HW_draw (.pure 0 (.pure 1 (.pure 2 (.pure 3 (.pure 4 (.pure 5 (.pure 6 (.pure 7 (.act 8 (.act 9 .done)))))))))) (fun j => j = r) mix (by kernel_rfl) hm fun w hw hm0 hh => ?_
        have hm := hm0
        refine rw_p rfl rfl (y_move rfl) ?_
        refine rw_p rfl rfl (y_nil rfl) ?_
        refine rw_p rfl rfl (y_fieldAddr rfl fo61_0) ?_
        refine rw_p rfl rfl (y_move rfl) ?_
        refine rw_p rfl rfl (y_move rfl) ?_
        refine rw_p rfl rfl (y_nil rfl) ?_
        refine rw_p rfl rfl (y_fieldAddr rfl fo61_0) ?_
        refine rw_p rfl rfl (y_fieldAddr rfl fo59_1) ?_
        refine a_pure rfl rfl rfl (y_load rfl sc3 (hm.nt 0 rfl) rfl) hh ?_
        refine a_call rfl rfl rfl go27 (w_fail _ _ _ _ _ s _ _ _ (hm.get (k := 0) rfl)) fun v w hR => ?_
        obtain ⟨rfl, hmc⟩ := hR
        refine ⟨hh.turn hmc.to fun _ h => h, ?_⟩
        replace hh := hh.turn hmc.to fun _ h => h
        replace hm := hm.callJ 0 rfl hmc
        refine rw_done ?_
        refine gn_sq ?_
        refine HW_seq rfl ?_
        refine HW_text (.pure 0 .done) (by kernel_rfl) ?_
        refine rw_p rfl rfl (y_assign rfl) ?_
        refine rw_done ?_
        refine gn_sq ?_
        refine HW_ret rfl ?_
        refine gr_sq ?_
        refine toR (fin hret rfl (.tmp rfl .nil) .one ?_)
        have e2 : Pl.rexpect bs s ds c = (s.fail c s.at_, false) := by unfold Pl.rexpect; rw [if_neg hc0, if_pos hne2]
        rw [e2]; exact ⟨rfl, hm⟩
      ·
        simp only [Bool.not_eq_false', Bool.and_eq_true, decide_eq_true_eq, hl2] at hc1
        refine HW_skip rfl ?_
        refine gn_sq ?_
        refine HW_seq rfl ?_
        refine HW_text (.pure 0 (.pure 1 (.pure 2 (.pure 3 (.pure 4 (.act 5 (.pure 6 (.pure 7 (.pure 8 (.pure 9 (.pure 10 .done))))))))))) (by kernel_rfl) ?_
        refine rw_p rfl rfl (y_move rfl) ?_
        refine rw_p rfl rfl (y_nil rfl) ?_
        refine rw_p rfl rfl (y_fieldAddr rfl fo61_0) ?_
        refine rw_p rfl rfl (y_move rfl) ?_
        refine rw_p rfl rfl (y_len rfl rfl sl22) ?_
        refine a_call rfl rfl rfl go25 (w_take r e p bs.length cap s ds.length _ (hm.get (k := 0) rfl) hcap hsp hat hlen (by omega)) fun v w hR => ?_
        obtain ⟨rfl, hmc⟩ := hR
        refine ⟨trivial, ?_⟩
        replace hm := hm.callJ 0 rfl hmc
        refine rw_p rfl rfl (y_move rfl) ?_
        refine rw_p rfl rfl (y_extract rfl rfl) ?_
        refine rw_p rfl rfl (y_extract rfl rfl) ?_
        refine rw_p rfl rfl (y_assign rfl) ?_
        refine rw_p rfl rfl (y_assign rfl) ?_
        refine rw_done ?_
        refine gn_sq ?_
        refine HW_seq rfl ?_
        refine HW_text (.pure 0 (.pure 1 .done)) (by kernel_rfl) ?_
        refine rw_p rfl rfl (y_move rfl) ?_
        refine rw_p rfl rfl (y_assign rfl) ?_
        refine rw_done ?_
        refine gn_sq ?_
        refine HW_ret rfl ?_
        refine toR (fin hret rfl (.tmp rfl .nil) .one ?_)
        have e2 : Pl.rexpect bs s ds c = Pl.rtake bs.length s ds.length := by unfold Pl.rexpect; rw [if_neg hc0, if_neg (not_not_intro hc1.2)]
        rw [e2]; exact ⟨rfl, hm⟩

theorem w_uint0 (m : Int) (w0 : World) : C Try.prog 12 [.pointer none, .int .i64 m] w0 fun v w' => v = .int .u64 0 ∧ Ext No w0 w' := by
  refine C_of Try.func12 rfl rfl rfl fun k hret hnorm => ?_
  have hm := Mem.start w0
  refine HW_seq rfl ?_
  refine HW_text (.pure 0 .done) (by kernel_rfl) ?_
  refine rw_p rfl rfl (y_assign rfl) ?_
  refine rw_done ?_
  refine gn_sq ?_
  refine HW_seq rfl ?_
  refine HW_seq rfl ?_
  refine HW_text (.pure 0 (.pure 1 .done)) (by kernel_rfl) ?_
  refine rw_p rfl rfl (y_move rfl) ?_
  refine rw_p rfl rfl (y_pnil rfl rfl pb32) ?_
  refine rw_done ?_
  refine gn_sq ?_
  refine HW_condT rfl rfl rfl ?_
  refine HW_seq rfl ?_
  refine HW_text (.pure 0 .done) (by kernel_rfl) ?_
  refine rw_p rfl rfl (y_assign rfl) ?_
  refine rw_done ?_
  refine gn_sq ?_
  refine HW_ret rfl ?_
  refine gr_sq ?_
  refine toR (fin hret rfl (.tmp rfl .nil) .one ?_)
  exact ⟨rfl, hm.to⟩

theorem w_length0 (w0 : World) : C Try.prog 18 [.pointer none] w0 fun v w' => v = .int .i64 0 ∧ Ext No w0 w' := by
  refine C_of Try.func18 rfl rfl rfl fun k hret hnorm => ?_
  have hm := Mem.start w0
  refine HW_seq rfl ?_
  refine HW_text (.pure 0 .done) (by kernel_rfl) ?_
  refine rw_p rfl rfl (y_assign rfl) ?_
  refine rw_done ?_
  refine gn_sq ?_
  refine HW_seq rfl ?_
  refine HW_seq rfl ?_
  refine HW_text (.pure 0 (.pure 1 .done)) (by kernel_rfl) ?_
  refine rw_p rfl rfl (y_move rfl) ?_
  refine rw_p rfl rfl (y_pnil rfl rfl pb32) ?_
  refine rw_done ?_
  refine gn_sq ?_
  refine HW_condT rfl rfl rfl ?_
  refine HW_seq rfl ?_
  refine HW_text (.pure 0 .done) (by kernel_rfl) ?_
  refine rw_p rfl rfl (y_assign rfl) ?_
  refine rw_done ?_
  refine gn_sq ?_
  refine HW_ret rfl ?_
  refine gr_sq ?_
  refine toR (fin hret rfl (.tmp rfl .nil) .one ?_)
  exact ⟨rfl, hm.to⟩

theorem w_bytes0 (m : Int) (w0 : World) : C Try.prog 19 [.pointer none, .int .i64 m] w0 fun v w' => v = .slice none 0 0 ∧ Ext No w0 w' := by
  refine C_of Try.func19 rfl rfl rfl fun k hret hnorm => ?_
  have hm := Mem.start w0
  refine HW_seq rfl ?_
  refine HW_text (.pure 0 .done) (by kernel_rfl) ?_
  refine rw_p rfl rfl (y_assign rfl) ?_
  refine rw_done ?_
  refine gn_sq ?_
  refine HW_seq rfl ?_
  refine HW_seq rfl ?_
  refine HW_text (.pure 0 (.pure 1 .done)) (by kernel_rfl) ?_
  refine rw_p rfl rfl (y_move rfl) ?_
  refine rw_p rfl rfl (y_pnil rfl rfl pb32) ?_
  refine rw_done ?_
  refine gn_sq ?_
  refine HW_condT rfl rfl rfl ?_
  refine HW_seq rfl ?_
  refine HW_text (.pure 0 .done) (by kernel_rfl) ?_
  refine rw_p rfl rfl (y_assign rfl) ?_
  refine rw_done ?_
  refine gn_sq ?_
  refine HW_ret rfl ?_
  refine gr_sq ?_
  refine toR (fin hret rfl (.tmp rfl .nil) .one ?_)
  exact ⟨rfl, hm.to⟩

theorem w_expect0 (x y : Value) (w0 : World) : C Try.prog 20 [.pointer none, x, y] w0 fun v w' => v = .bool false ∧ Ext No w0 w' := by
  refine C_of Try.func20 rfl rfl rfl fun k hret hnorm => ?_
  have hm := Mem.start w0
  refine HW_seq rfl ?_
  refine HW_text (.pure 0 .done) (by kernel_rfl) ?_
  refine rw_p rfl rfl (y_assign rfl) ?_
  refine rw_done ?_
  refine gn_sq ?_
  refine HW_seq rfl ?_
  refine HW_seq rfl ?_
  refine HW_text (.pure 0 (.pure 1 (.pure 2 (.pure 3 (.pure 4 (.pure 5 (.pure 6 (.pure 7 (.pure 8 (.pure 9 (.pure 10 .done))))))))))) (by kernel_rfl) ?_
  refine rw_p rfl rfl (y_move rfl) ?_
  refine rw_p rfl rfl (y_pnil rfl rfl pb32) ?_
  refine rw_p rfl rfl (y_move rfl) ?_
  refine rw_gf rfl rfl (by decide) rfl ?_
  refine rw_gf rfl rfl (by decide) rfl ?_
  refine rw_gf rfl rfl (by decide) rfl ?_
  refine rw_gf rfl rfl (by decide) rfl ?_
  refine rw_gf rfl rfl (by decide) rfl ?_
  refine rw_gf rfl rfl (by decide) rfl ?_
  refine rw_gf rfl rfl (by decide) rfl ?_
  refine rw_p rfl rfl (y_pickT rfl rfl) ?_
  refine rw_done ?_
  refine gn_sq ?_
  refine HW_condT rfl rfl rfl ?_
  refine HW_seq rfl ?_
  refine HW_text (.pure 0 .done) (by kernel_rfl) ?_
  refine rw_p rfl rfl (y_assign rfl) ?_
  refine rw_done ?_
  refine gn_sq ?_
  refine HW_ret rfl ?_
  refine gr_sq ?_
  refine toR (fin hret rfl (.tmp rfl .nil) .one ?_)
  exact ⟨rfl, hm.to⟩

theorem w_at0 (w0 : World) : C Try.prog 14 [.pointer none] w0 fun v w' => v = .int .i64 0 ∧ Ext No w0 w' := by
  refine C_of Try.func14 rfl rfl rfl fun k hret hnorm => ?_
  have hm := Mem.start w0
  refine HW_seq rfl ?_
  refine HW_text (.pure 0 .done) (by kernel_rfl) ?_
  refine rw_p rfl rfl (y_assign rfl) ?_
  refine rw_done ?_
  refine gn_sq ?_
  refine HW_seq rfl ?_
  refine HW_seq rfl ?_
  refine HW_text (.pure 0 (.pure 1 .done)) (by kernel_rfl) ?_
  refine rw_p rfl rfl (y_move rfl) ?_
  refine rw_p rfl rfl (y_pnil rfl rfl pb32) ?_
  refine rw_done ?_
  refine gn_sq ?_
  refine HW_condT rfl rfl rfl ?_
  refine HW_seq rfl ?_
  refine HW_text (.pure 0 .done) (by kernel_rfl) ?_
  refine rw_p rfl rfl (y_assign rfl) ?_
  refine rw_done ?_
  refine gn_sq ?_
  refine HW_ret rfl ?_
  refine gr_sq ?_
  refine toR (fin hret rfl (.tmp rfl .nil) .one ?_)
  exact ⟨rfl, hm.to⟩

theorem w_rest0 (w0 : World) : C Try.prog 13 [.pointer none] w0 fun v w' => v = .int .i64 0 ∧ Ext No w0 w' := by
  refine C_of Try.func13 rfl rfl rfl fun k hret hnorm => ?_
  have hm := Mem.start w0
  refine HW_seq rfl ?_
  refine HW_text (.pure 0 .done) (by kernel_rfl) ?_
  refine rw_p rfl rfl (y_assign rfl) ?_
  refine rw_done ?_
  refine gn_sq ?_
  refine HW_seq rfl ?_
  refine HW_seq rfl ?_
  refine HW_text (.pure 0 (.pure 1 .done)) (by kernel_rfl) ?_
  refine rw_p rfl rfl (y_move rfl) ?_
  refine rw_p rfl rfl (y_pnil rfl rfl pb32) ?_
  refine rw_done ?_
  refine gn_sq ?_
  refine HW_condT rfl rfl rfl ?_
  refine HW_seq rfl ?_
  refine HW_text (.pure 0 .done) (by kernel_rfl) ?_
  refine rw_p rfl rfl (y_assign rfl) ?_
  refine rw_done ?_
  refine gn_sq ?_
  refine HW_ret rfl ?_
  refine gr_sq ?_
  refine toR (fin hret rfl (.tmp rfl .nil) .one ?_)
  exact ⟨rfl, hm.to⟩

theorem w_Fail0 (x y : Value) (w0 : World) : C Try.prog 17 [.pointer none, x, y] w0 fun v w' => v = .tuple ⟨[]⟩ ∧ Ext No w0 w' := by
  refine C_of Try.func17 rfl rfl rfl fun k hret hnorm => ?_
  have hm := Mem.start w0
  refine HW_seq rfl ?_
  refine HW_text (.pure 0 (.pure 1 .done)) (by kernel_rfl) ?_
  refine rw_p rfl rfl (y_move rfl) ?_
  refine rw_p rfl rfl (y_pnnil rfl rfl pb32) ?_
  refine rw_done ?_
  refine gn_sq ?_
  refine HW_condF rfl rfl rfl ?_
  refine HW_skip rfl ?_
  refine toN (fin hnorm rfl .nil .nil ?_)
  exact ⟨rfl, hm.to⟩

theorem w_fault0 (w0 : World) : C Try.prog 15 [.pointer none] w0 fun v w' => v = .agg ⟨[.int .i64 1, .int .i64 0]⟩ ∧ Ext No w0 w' := by
  refine C_of Try.func15 rfl rfl rfl fun k hret hnorm => ?_
  have hm := Mem.start w0
  refine HW_seq rfl ?_
  refine HW_text (.act 0 .done) (by kernel_rfl) ?_
  refine a_alloc rfl rfl z41 hm trivial fun m1 w hg_m1 hm hh => ?_
  refine rw_done ?_
  refine gn_sq ?_
  refine HW_seq rfl ?_
  refine HW_seq rfl ?_
  refine HW_text (.pure 0 (.pure 1 .done)) (by kernel_rfl) ?_
  refine rw_p rfl rfl (y_move rfl) ?_
  refine rw_p rfl rfl (y_pnil rfl rfl pb32) ?_
  refine rw_done ?_
  refine gn_sq ?_
  refine HW_condT rfl rfl rfl ?_
  refine HW_seq rfl ?_
  refine HW_text (.pure 0 (.act 1 .done)) (by kernel_rfl) ?_
  refine rw_p rfl rfl (y_build (cs := [_, _]) z41 ft41 rfl rfl rfl rfl rfl) ?_
  refine a_store rfl rfl rfl rfl sz41 rfl hm 0 rfl rfl fun w hm => ?_
  refine rw_done ?_
  refine gn_sq ?_
  refine HW_ret rfl ?_
  refine gr_sq ?_
  refine toR (fin hret rfl (.cell rfl (run_loadVar_a (vs := [_, _]) ag41 (hm.get (k := 0) rfl) rfl) .nil) .one ?_)
  exact ⟨rfl, hm.to⟩

theorem w_new (p : Option Addr) (cap : Nat) (bs : List UInt8) (w0 : World) (hx : Rd w0 p (bs.flatMap encB)) (hlen : bs.length ≤ 140737488355328) : C Try.prog 11 [.slice p bs.length cap] w0 fun v w' => ∃ m q c g b, v = .pointer (some ⟨m, 0, none⟩) ∧ Acc 5 1 q bs.length c (bs.flatMap encB) g b ∧ Mem w0 w' No [(m, .row 61 (rdV q bs.length c ⟨0, 0, 0⟩)), (g, b)] := by
  refine C_of Try.func11 rfl rfl rfl fun k hret hnorm => ?_
  have hm := Mem.start w0
  refine HW_seq rfl ?_
  refine HW_text (.pure 0 .done) (by kernel_rfl) ?_
  refine rw_p rfl rfl (y_assign rfl) ?_
  refine rw_done ?_
  refine gn_sq ?_
  refine HW_seq rfl ?_
  refine HW_text (.pure 0 (.act 1 (.pure 2 (.pure 3 (.act 4 (.pure 5 .done)))))) (by kernel_rfl) ?_
  refine rw_p rfl rfl (y_move rfl) ?_
  refine a_call rfl rfl rfl go23 (clone_b p cap bs _ (hx.ext0 hm.to) (by omega)) fun v w hR => ?_
  obtain ⟨p_s, cap_s, g_s, b_s, rfl, ha_s, hmc⟩ := hR
  refine ⟨trivial, ?_⟩
  have hg_s : b_s.real = true → _ := fun hr => (hmc.fresh _ List.mem_cons_self hr).resolve_left id
  replace hm := hm.callN hmc
  refine rw_p rfl rfl (y_build (cs := [_, _, _, _]) z59 ft59 rfl rfl rfl rfl rfl) ?_
  refine rw_p rfl rfl (y_build (cs := [_, _, _, _]) z61 ft61 rfl rfl rfl rfl rfl) ?_
  refine a_box rfl rfl rfl rfl hm trivial fun m1 w hg_m1 hm hh => ?_
  refine rw_p rfl rfl (y_assign rfl) ?_
  refine rw_done ?_
  refine gn_sq ?_
  refine HW_ret rfl ?_
  refine toR (fin hret rfl (.tmp rfl .nil) .one ?_)
  exact ⟨_, _, _, _, _, rfl, ha_s, hm⟩

theorem r6_append (p : Option Addr) (cap : Nat) (bs : List UInt8) (x n : Int) (w0 : World) (hx : Rd w0 p (bs.flatMap encB)) (hlen : bs.length ≤ 1099511627776) (hv : 0 ≤ x ∧ x ≤ 18446744073709551615) (hn : 1 ≤ n ∧ n ≤ 8) : C Try.prog 22 [.slice p bs.length cap, .int .u64 x, .int .i64 n] w0 fun v w' => ∃ p n' cap g b, v = .slice p n' cap ∧ Acc 5 1 p n' cap ((bs ++ Pl.be x n.toNat).flatMap encB) g b ∧ Mem w0 w' No [(g, b)] := by
  refine C_of Try.func22 rfl rfl rfl fun k hret hnorm => ?_
  have hm := Mem.start w0
  refine HW_seq rfl ?_
  refine HW_text (.pure 0 .done) (by kernel_rfl) ?_
  refine rw_p rfl rfl (y_assign rfl) ?_
  refine rw_done ?_
  refine gn_sq ?_
  refine HW_seq rfl ?_
  refine HW_text (.act 0 (.pure 1 (.act 2 (.pure 3 .done)))) (by kernel_rfl) ?_
  refine a_buildSlice (l := []) rfl rfl sl22 z5 rfl rfl rfl rfl rfl rfl rfl hm trivial fun m1 w hg_m1 hm hh => ?_
  refine rw_p rfl rfl (y_move rfl) ?_
  refine a_append rfl rfl rfl rfl rfl rfl sl22 sl22 z5 rfl (oneB bs) (hx.ext0 hm.to) (lenB bs) (Acc.row rfl) hm 0 rfl (by omega) (by omega) fun p_s cap_s g_s b_s w ha_s hm => ?_
  refine rw_p rfl rfl (y_assign rfl) ?_
  refine rw_done ?_
  refine gn_sq ?_
  refine HW_seq rfl ?_
  refine HW_seq rfl ?_
  refine HW_text (.pure 0 (.pure 1 (.pure 2 .done))) (by kernel_rfl) ?_
  refine rw_p rfl rfl (y_move rfl) ?_
  refine rw_p rfl rfl (y_sub rfl rfl (i64w (by omega) (by omega))) ?_
  refine rw_p rfl rfl (y_assign rfl) ?_
  refine rw_done ?_
  refine gn_sq ?_
  refine HW_block rfl ?_
  refine HW_loopK (ι := Nat × Ow × List UInt8) rfl (ks := [1, 6]) (.cons rfl (.cons rfl .nil)) (fun y => [(8, .int .i64 ((y.1 : Int) - 1)), (7, .slice y.2.1.p y.2.1.n y.2.1.cap)]) (fun y w => Mem w0 w No [(y.2.1.g, y.2.1.b)] ∧ Acc 5 1 y.2.1.p y.2.1.n y.2.1.cap ((bs ++ y.2.2).flatMap encB) y.2.1.g y.2.1.b ∧ y.2.2 ++ Pl.be x y.1 = Pl.be x n.toNat ∧ y.1 ≤ 8 ∧ y.2.1.n + y.1 ≤ bs.length + 8) (fun y => y.1) (n.toNat, ⟨p_s, _, cap_s, g_s, b_s⟩, []) (⟨hm, by simpa using ha_s, rfl, by omega, by simp only; omega⟩) ⟨(congrArg (fun z => some (Value.int .i64 z)) (by simp only; omega)), rfl, trivial⟩ (fun y w hM => ?_)
  obtain ⟨hm, ha_s, hpre, hj, hn2⟩ := hM
  refine HW_seq rfl ?_
  refine HW_seq rfl ?_
  refine HW_text (.pure 0 (.pure 1 .done)) (by kernel_rfl) ?_
  refine rw_p rfl rfl (y_move rfl) ?_
  refine rw_p rfl rfl (y_ge rfl rfl) ?_
  refine rw_done ?_
  refine gn_sq ?_
  refine HW_cond rfl rfl (fun hc0 => ?_) (fun hc0 => ?_)
  ·
    simp only [decide_eq_true_eq] at hc0
    refine HW_skip rfl ?_
    refine gn_sq ?_
    refine HW_seq rfl ?_
    refine HW_block rfl ?_
    refine HW_text (.pure 0 (.pure 1 (.pure 2 (.pure 3 (.pure 4 (.pure 5 (.act 6 (.act 7 (.pure 8 .done))))))))) (by kernel_rfl) ?_
    refine rw_p rfl rfl (y_move rfl) ?_
    refine rw_p rfl rfl (y_move rfl) ?_
    refine rw_p rfl rfl (y_move rfl) ?_
    refine rw_p rfl rfl (y_mul rfl rfl (i64w (by omega) (by omega))) ?_
    refine rw_p rfl rfl (y_shr rfl rfl (by omega) rfl) ?_
    refine rw_p rfl rfl (y_conv rfl is34 it5 (shrB (k := y.1 - 1) hv.1 (by omega) (by omega))) ?_
    refine a_buildSlice (l := [_]) rfl rfl sl22 z5 rfl rfl rfl rfl rfl rfl rfl hm trivial fun m2 w hg_m2 hm hh => ?_
    refine a_append rfl rfl rfl rfl rfl rfl sl22 sl22 z5 rfl rfl (Rd.row0 (hm.get (k := 0) rfl)) rfl ha_s hm 1 rfl (by omega) (by omega) fun p_s cap_s g_s b_s w ha_s hm => ?_
    refine rw_p rfl rfl (y_assign rfl) ?_
    refine rw_done ?_
    refine gn_bl ?_
    refine gn_sq ?_
    refine HW_text (.pure 0 (.pure 1 (.pure 2 .done))) (by kernel_rfl) ?_
    refine rw_p rfl rfl (y_move rfl) ?_
    refine rw_p rfl rfl (y_sub rfl rfl (i64w (by omega) (by omega))) ?_
    refine rw_p rfl rfl (y_assign rfl) ?_
    refine rw_done ?_
    refine next (y.1 - 1, ⟨p_s, _, cap_s, g_s, b_s⟩, y.2.2 ++ [Pl.byt x (y.1 - 1)]) (by simp only; omega) ⟨hm.tail, ha_s.to ?_, ?_, by simp only; omega, by simp only; omega⟩ ⟨nx1 y.1 (by omega), rfl, rfl, rfl, trivial⟩
    · simp [encB]
    · rw [← hpre]; simp only [List.append_assoc, List.singleton_append]; rw [show y.1 = (y.1 - 1) + 1 by omega]; rfl
  ·
    simp only [decide_eq_false_iff_not] at hc0
    refine HW_exit rfl ?_
    refine gx_sq (gx_lp ?_)
    refine gx_here ?_
    refine gn_sq ?_
    refine HW_seq rfl ?_
    refine HW_text (.pure 0 (.pure 1 .done)) (by kernel_rfl) ?_
    refine rw_p rfl rfl (y_move rfl) ?_
    refine rw_p rfl rfl (y_assign rfl) ?_
    refine rw_done ?_
    refine gn_sq ?_
    refine HW_ret rfl ?_
    refine toR (fin hret rfl (.tmp rfl .nil) .one ?_)
    have hy0 : y.1 = 0 := by omega
    rw [hy0, Pl.be, List.append_nil] at hpre
    exact ⟨_, _, _, _, _, rfl, ha_s.to (by rw [← hpre]), hm⟩

end Go.Proofs.Ytoemhcpmdeinfaa
