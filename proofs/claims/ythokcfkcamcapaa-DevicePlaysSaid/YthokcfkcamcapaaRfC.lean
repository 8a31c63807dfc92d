/- Contracts of functions of the program: what each returns. Conditions: the hypotheses of each theorem. -/
import Derived.Test.YthokcfkcamcapaaRfB
set_option linter.unusedVariables false
set_option linter.unusedSimpArgs false
namespace Go.Proofs.Ythokcfkcamcapaa
open Go Go.Cx

theorem fo48_4 : fldO Try.prog 48 4 = some 4 := by kernel_rfl
theorem fo48_5 : fldO Try.prog 48 5 = some 5 := by kernel_rfl
theorem sz40 : szO Try.prog 40 = some 1 := by kernel_rfl
theorem sz46 : szO Try.prog 46 = some 1 := by kernel_rfl
theorem fo48_8 : fldO Try.prog 48 8 = some 8 := by kernel_rfl
theorem sz24 : szO Try.prog 24 = some 1 := by kernel_rfl
theorem fo48_9 : fldO Try.prog 48 9 = some 9 := by kernel_rfl

theorem rf_arm (D : Pl.Dv) (m : Nat) (pb : Option Addr) (cb : Nat) (pc : Option Addr) (cc : Nat) (cs : List PdV) (B : List (Nat × Blk)) (w0 : World) (hZ : OwnZ w0 ((m, .row 48 (rfV D pb cb pc cc)) :: B)) (hb : Held B 5 ⟨pb, cb, D.dk⟩) (hp : HeldP B 55 5 pc cc cs) (hwr : cs.map PdV.wr = D.ca) (hok : Pl.okDv D) (n k : Int) (hn : Pl.I64 n) (hk : 0 ≤ k ∧ k ≤ 18446744073709551615) : C Try.prog 35 [.pointer (some ⟨m, 0, none⟩), .int .i64 n, .int .u64 k] w0 fun v w' => v = .tuple ⟨[]⟩ ∧ ∃ Z', RefZ 48 55 5 (Pl.aDv D n k) m Z' ∧ Mem w0 w' (Mn (reals ((m, .row 48 (rfV D pb cb pc cc)) :: B))) Z' := by
  have hP : w0.heap[m]? = some (Blk.toObj (.row 48 (rfV D pb cb pc cc))) := hZ.get (k := 0) rfl
  have o1 := hok.sz
  have o2 := hok.len
  have o3 := hok.cnt
  have o4 := hok.max
  have o5 : D.cnt ≤ D.cnt * D.sz := Nat.le_mul_of_pos_right _ o1
  have o6 := hb.le
  have o8 := hp.le
  simp only at o6
  have hCl := wr_len hwr
  have hBR := hb.rdO hZ.tail
  have hCR := hp.rdO hZ (fun _ he => List.mem_cons_of_mem _ he)
  have o9 : D.sz ≤ D.cnt * D.sz := Nat.le_mul_of_pos_left _ o3
  refine C_of Try.func35 rfl rfl rfl fun κ hret hnorm => ?_
  have hm := hZ.start
  refine HW_seq rfl ?_
  refine HW_text (.pure 0 (.pure 1 (.pure 2 (.pure 3 (.pure 4 (.act 5 .done)))))) (by kernel_rfl) ?_
  refine rw_p rfl rfl (y_move rfl) ?_
  refine rw_p rfl rfl (y_move rfl) ?_
  refine rw_p rfl rfl (y_max rfl rfl) ?_
  refine rw_p rfl rfl (y_nil rfl) ?_
  refine rw_p rfl rfl (y_fieldAddr rfl fo48_4) ?_
  refine a_store rfl rfl rfl rfl sz3 rfl hm 0 rfl rfl fun w hm => ?_
  refine rw_done ?_
  refine gn_sq ?_
  refine HW_text (.pure 0 (.pure 1 (.pure 2 (.pure 3 (.act 4 .done))))) (by kernel_rfl) ?_
  refine rw_p rfl rfl (y_move rfl) ?_
  refine rw_p rfl rfl (y_move rfl) ?_
  refine rw_p rfl rfl (y_nil rfl) ?_
  refine rw_p rfl rfl (y_fieldAddr rfl fo48_5) ?_
  refine a_store rfl rfl rfl rfl sz40 rfl hm 0 rfl rfl fun w hm => ?_
  refine rw_done ?_
  refine toN (fin hnorm rfl .nil .nil ?_)
  exact ⟨rfl, _, ref_mk (D := Pl.aDv D n k) hb hp hwr (Pl.ok_arm hok hn hk), (hm.pickT [0] 1 rfl)⟩

theorem rf_restart (D : Pl.Dv) (m : Nat) (pb : Option Addr) (cb : Nat) (pc : Option Addr) (cc : Nat) (cs : List PdV) (B : List (Nat × Blk)) (w0 : World) (hZ : OwnZ w0 ((m, .row 48 (rfV D pb cb pc cc)) :: B)) (hb : Held B 5 ⟨pb, cb, D.dk⟩) (hp : HeldP B 55 5 pc cc cs) (hwr : cs.map PdV.wr = D.ca) (hok : Pl.okDv D) : C Try.prog 36 [.pointer (some ⟨m, 0, none⟩)] w0 fun v w' => v = .tuple ⟨[]⟩ ∧ ∃ Z', RefZ 48 55 5 (Pl.sDv D) m Z' ∧ Mem w0 w' (Mn (reals ((m, .row 48 (rfV D pb cb pc cc)) :: B))) Z' := by
  have hP : w0.heap[m]? = some (Blk.toObj (.row 48 (rfV D pb cb pc cc))) := hZ.get (k := 0) rfl
  have o1 := hok.sz
  have o2 := hok.len
  have o3 := hok.cnt
  have o4 := hok.max
  have o5 : D.cnt ≤ D.cnt * D.sz := Nat.le_mul_of_pos_right _ o1
  have o6 := hb.le
  have o8 := hp.le
  simp only at o6
  have hCl := wr_len hwr
  have hBR := hb.rdO hZ.tail
  have hCR := hp.rdO hZ (fun _ he => List.mem_cons_of_mem _ he)
  have o9 : D.sz ≤ D.cnt * D.sz := Nat.le_mul_of_pos_left _ o3
  have hdk : (Pl.sDv D).dk = D.dk := Pl.pers_none _ _ _ _
  have hrow : rfV (Pl.sDv D) pb cb none 0 = [.int .i64 (D.sz : Int), .int .i64 (D.cnt : Int), .slice pb D.dk.length cb, .slice none 0 0, .int .i64 (-1), .int .u64 D.kp, .bool false, .int .i64 D.sW, .int .i64 D.sF, .int .i64 D.sC, .int .i64 D.sH, .int .i64 D.sM] := by unfold rfV; rw [hdk]; rfl
  refine C_of Try.func36 rfl rfl rfl fun κ hret hnorm => ?_
  have hm := hZ.start
  refine HW_seq rfl ?_
  refine HW_text (.pure 0 (.pure 1 (.pure 2 (.act 3 .done)))) (by kernel_rfl) ?_
  refine rw_p rfl rfl (y_move rfl) ?_
  refine rw_p rfl rfl (y_nil rfl) ?_
  refine rw_p rfl rfl (y_fieldAddr rfl fo48_3) ?_
  refine a_store rfl rfl rfl rfl sz46 rfl hm 0 rfl rfl fun w hm => ?_
  refine rw_done ?_
  refine gn_sq ?_
  refine HW_seq rfl ?_
  refine HW_text (.pure 0 (.pure 1 (.pure 2 (.act 3 .done)))) (by kernel_rfl) ?_
  refine rw_p rfl rfl (y_move rfl) ?_
  refine rw_p rfl rfl (y_nil rfl) ?_
  refine rw_p rfl rfl (y_fieldAddr rfl fo48_4) ?_
  refine a_store rfl rfl rfl rfl sz3 rfl hm 0 rfl rfl fun w hm => ?_
  refine rw_done ?_
  refine gn_sq ?_
  refine HW_text (.pure 0 (.pure 1 (.pure 2 (.act 3 .done)))) (by kernel_rfl) ?_
  refine rw_p rfl rfl (y_move rfl) ?_
  refine rw_p rfl rfl (y_nil rfl) ?_
  refine rw_p rfl rfl (y_fieldAddr rfl fo48_6) ?_
  refine a_store rfl rfl rfl rfl sz4 rfl hm 0 rfl rfl fun w hm => ?_
  refine rw_done ?_
  refine toN (fin hnorm rfl .nil .nil ?_)
  exact ⟨rfl, _, ref_mk (D := Pl.sDv D) (pb := pb) (cb := cb) (pc := none) (cc := 0) (cs := []) (by rw [hdk]; exact hb.mono (fun _ he => List.mem_cons_of_mem _ he)) (heldP_nil _ _ List.mem_cons_self) rfl (Pl.ok_restart hok), by rw [hrow]; exact (hm.gapIn.pickT [1, 0] 2 rfl)⟩

set_option maxHeartbeats 800000 in
theorem rf_flush (D : Pl.Dv) (m : Nat) (pb : Option Addr) (cb : Nat) (pc : Option Addr) (cc : Nat) (cs : List PdV) (B : List (Nat × Blk)) (w0 : World) (hZ : OwnZ w0 ((m, .row 48 (rfV D pb cb pc cc)) :: B)) (hb : Held B 5 ⟨pb, cb, D.dk⟩) (hp : HeldP B 55 5 pc cc cs) (hwr : cs.map PdV.wr = D.ca) (hok : Pl.okDv D) (hcl : D.ca.length ≤ 2000000000) : C Try.prog 34 [.pointer (some ⟨m, 0, none⟩)] w0 fun v w' => v = .int .i64 (Pl.fCode D) ∧ ∃ Z', RefZ 48 55 5 (Pl.fDv D) m Z' ∧ Mem w0 w' (Mn (reals ((m, .row 48 (rfV D pb cb pc cc)) :: B))) Z' := by
  have hP : w0.heap[m]? = some (Blk.toObj (.row 48 (rfV D pb cb pc cc))) := hZ.get (k := 0) rfl
  have o1 := hok.sz
  have o2 := hok.len
  have o3 := hok.cnt
  have o4 := hok.max
  have o5 : D.cnt ≤ D.cnt * D.sz := Nat.le_mul_of_pos_right _ o1
  have o6 := hb.le
  have o8 := hp.le
  simp only at o6
  have hCl := wr_len hwr
  have hBR := hb.rdO hZ.tail
  have hCR := hp.rdO hZ (fun _ he => List.mem_cons_of_mem _ he)
  have o9 : D.sz ≤ D.cnt * D.sz := Nat.le_mul_of_pos_left _ o3
  have hfc : Pl.fCode D = if D.dn = true then 18 else 0 := rfl
  have hfd : Pl.fDv D = if D.dn = true then D else { Pl.persist D (fun _ => true) with sF := Pl.inc D.sF } := rfl
  have hdk : Pl.pers D.sz (fun _ => true) 0 D.dk D.ca = Pl.contents D := Pl.pers_all _ _ _ _
  refine C_of Try.func34 rfl rfl rfl fun κ hret hnorm => ?_
  have hm := hZ.start
  refine HW_seq rfl ?_
  refine HW_text (.pure 0 .done) (by kernel_rfl) ?_
  refine rw_p rfl rfl (y_assign rfl) ?_
  refine rw_done ?_
  refine gn_sq ?_
  refine HW_seq rfl ?_
  refine HW_seq rfl ?_
  refine HW_text (.pure 0 (.pure 1 (.pure 2 (.pure 3 .done)))) (by kernel_rfl) ?_
  refine rw_p rfl rfl (y_move rfl) ?_
  refine rw_p rfl rfl (y_nil rfl) ?_
  refine rw_p rfl rfl (y_fieldAddr rfl fo48_6) ?_
  refine rw_p rfl rfl (y_load rfl sc4 (hm.nt 0 rfl) rfl) ?_
  refine rw_done ?_
  refine gn_sq ?_
  refine HW_cond rfl rfl (fun hc0 => ?_) (fun hc0 => ?_)
  ·
    refine HW_seq rfl ?_
    refine HW_text (.pure 0 .done) (by kernel_rfl) ?_
    refine rw_p rfl rfl (y_assign rfl) ?_
    refine rw_done ?_
    refine gn_sq ?_
    refine HW_ret rfl ?_
    refine gr_sq ?_
    refine toR (fin hret rfl (.tmp rfl .nil) .one ?_)
    exact ⟨by rw [hfc, if_pos hc0], _, by rw [hfd, if_pos hc0]; exact ref_mk hb hp hwr hok, (hm.pickT [0] 1 rfl)⟩
  ·
    refine HW_skip rfl ?_
    refine gn_sq ?_
    refine HW_seq rfl ?_
    refine HW_text (.pure 0 (.pure 1 (.act 2 (.pure 3 (.pure 4 (.act 5 .done)))))) (by kernel_rfl) ?_
    refine rw_p rfl rfl (y_move rfl) ?_
    refine rw_p rfl rfl (y_move rfl) ?_
    refine a_call rfl rfl rfl go22 (rf_contents D m pb cb pc cc cs B _ hm.ownZ hb hp hwr hok hcl) fun v w hR => ?_
    obtain ⟨p_t, cap_t, Nt, rfl, hh_t, hmc⟩ := hR
    refine ⟨trivial, ?_⟩
    replace hm := hm.callN1 hmc
    refine rw_p rfl rfl (y_nil rfl) ?_
    refine rw_p rfl rfl (y_fieldAddr rfl fo48_2) ?_
    refine a_store rfl rfl rfl rfl sz24 rfl hm 0 rfl rfl fun w hm => ?_
    refine rw_done ?_
    refine gn_sq ?_
    refine HW_seq rfl ?_
    refine HW_text (.pure 0 (.pure 1 (.pure 2 (.act 3 .done)))) (by kernel_rfl) ?_
    refine rw_p rfl rfl (y_move rfl) ?_
    refine rw_p rfl rfl (y_nil rfl) ?_
    refine rw_p rfl rfl (y_fieldAddr rfl fo48_3) ?_
    refine a_store rfl rfl rfl rfl sz46 rfl hm 0 rfl rfl fun w hm => ?_
    refine rw_done ?_
    refine gn_sq ?_
    refine HW_seq rfl ?_
    refine HW_text (.pure 0 (.pure 1 (.pure 2 (.pure 3 (.pure 4 (.pure 5 (.pure 6 (.act 7 .done)))))))) (by kernel_rfl) ?_
    refine rw_p rfl rfl (y_move rfl) ?_
    refine rw_p rfl rfl (y_nil rfl) ?_
    refine rw_p rfl rfl (y_fieldAddr rfl fo48_8) ?_
    refine rw_p rfl rfl (y_load rfl sc3 (hm.nt 0 rfl) rfl) ?_
    refine rw_p rfl rfl (y_add rfl rfl rfl) ?_
    refine rw_p rfl rfl (y_nil rfl) ?_
    refine rw_p rfl rfl (y_fieldAddr rfl fo48_8) ?_
    refine a_store rfl rfl rfl rfl sz3 rfl hm 0 rfl rfl fun w hm => ?_
    refine rw_done ?_
    refine gn_sq ?_
    refine HW_seq rfl ?_
    refine HW_text (.pure 0 .done) (by kernel_rfl) ?_
    refine rw_p rfl rfl (y_assign rfl) ?_
    refine rw_done ?_
    refine gn_sq ?_
    refine HW_ret rfl ?_
    refine toR (fin hret rfl (.tmp rfl .nil) .one ?_)
    have hrow : rfV { Pl.persist D (fun _ => true) with sF := Pl.inc D.sF } p_t cap_t none 0 = [.int .i64 (D.sz : Int), .int .i64 (D.cnt : Int), .slice p_t (Pl.contents D).length cap_t, .slice none 0 0, .int .i64 D.wr, .int .u64 D.kp, .bool D.dn, .int .i64 D.sW, .int .i64 (Pl.inc D.sF), .int .i64 D.sC, .int .i64 D.sH, .int .i64 D.sM] := by unfold rfV Pl.persist; simp only [hdk]; rfl
    exact ⟨by rw [hfc, if_neg (by simp [hc0])], _, by rw [hfd, if_neg (by simp [hc0])]; exact ref_mk (D := { Pl.persist D (fun _ => true) with sF := Pl.inc D.sF }) (pb := p_t) (cb := cap_t) (pc := none) (cc := 0) (cs := []) (B := (0, .gap) :: (Nt ++ B)) (by show Held _ _ ⟨p_t, cap_t, Pl.pers D.sz (fun _ => true) 0 D.dk D.ca⟩; rw [hdk]; exact hh_t.mono (fun _ he => List.mem_cons_of_mem _ he)) (heldP_nil _ _ List.mem_cons_self) rfl (by have := Pl.ok_flush hok; rw [hfd, if_neg (by simp [hc0])] at this; exact this), by rw [hrow]; exact (hm.gapIn.pickT [1, 0] 2 rfl)⟩

set_option maxHeartbeats 1600000 in
theorem rf_crash (D : Pl.Dv) (m : Nat) (pb : Option Addr) (cb : Nat) (pc : Option Addr) (cc : Nat) (cs : List PdV) (B : List (Nat × Blk)) (w0 : World) (hZ : OwnZ w0 ((m, .row 48 (rfV D pb cb pc cc)) :: B)) (hb : Held B 5 ⟨pb, cb, D.dk⟩) (hp : HeldP B 55 5 pc cc cs) (hwr : cs.map PdV.wr = D.ca) (hok : Pl.okDv D) (hcl : D.ca.length ≤ 2000000000) : C Try.prog 44 [.pointer (some ⟨m, 0, none⟩)] w0 fun v w' => v = .tuple ⟨[]⟩ ∧ ∃ Z', RefZ 48 55 5 { Pl.persist D (Pl.keepB D.kp) with wr := -1, dn := true, sC := Pl.inc D.sC } m Z' ∧ Mem w0 w' (Mn (reals ((m, .row 48 (rfV D pb cb pc cc)) :: B))) Z' := by
  have hP : w0.heap[m]? = some (Blk.toObj (.row 48 (rfV D pb cb pc cc))) := hZ.get (k := 0) rfl
  have o1 := hok.sz
  have o2 := hok.len
  have o3 := hok.cnt
  have o4 := hok.max
  have o5 : D.cnt ≤ D.cnt * D.sz := Nat.le_mul_of_pos_right _ o1
  have o6 := hb.le
  have o8 := hp.le
  simp only at o6
  have hCl := wr_len hwr
  have hBR := hb.rdO hZ.tail
  have hCR := hp.rdO hZ (fun _ he => List.mem_cons_of_mem _ he)
  have o9 : D.sz ≤ D.cnt * D.sz := Nat.le_mul_of_pos_left _ o3
  refine C_of Try.func44 rfl rfl rfl fun κ hret hnorm => ?_
  have hm := hZ.start
  refine HW_seq rfl ?_
  refine HW_seq rfl ?_
  refine HW_text (.pure 0 .done) (by kernel_rfl) ?_
  refine rw_p rfl rfl (y_assign rfl) ?_
  refine rw_done ?_
  refine gn_sq ?_
  refine HW_block rfl ?_
  refine HW_loopK (ι := Nat × Option Addr × Nat × List (Nat × Blk)) rfl (ks := [0]) (.cons rfl .nil) (fun x => [(2, .int .i64 x.1)]) (fun x w => Mem w0 w (Mn (reals ((m, .row 48 (rfV D pb cb pc cc)) :: B))) ((m, .row 48 (rfV { D with dk := (Pl.pers D.sz (Pl.keepB D.kp) 0 D.dk (D.ca.take x.1)) } x.2.1 x.2.2.1 pc cc)) :: x.2.2.2) ∧ Held x.2.2.2 5 ⟨x.2.1, x.2.2.1, (Pl.pers D.sz (Pl.keepB D.kp) 0 D.dk (D.ca.take x.1))⟩ ∧ HeldP x.2.2.2 55 5 pc cc cs ∧ x.1 ≤ D.ca.length) (fun x => D.ca.length - x.1) (0, pb, cb, B) (⟨hm, hb, hp, Nat.zero_le _⟩) ⟨rfl, trivial⟩ (fun x w hM => ?_)
  obtain ⟨hm, hb9, hp9, hk⟩ := hM
  refine HW_seq rfl ?_
  refine HW_seq rfl ?_
  refine HW_text (.pure 0 (.pure 1 (.pure 2 (.pure 3 (.pure 4 (.pure 5 (.pure 6 .done))))))) (by kernel_rfl) ?_
  refine rw_p rfl rfl (y_move rfl) ?_
  refine rw_p rfl rfl (y_move rfl) ?_
  refine rw_p rfl rfl (y_nil rfl) ?_
  refine rw_p rfl rfl (y_fieldAddr rfl fo48_3) ?_
  refine rw_p rfl rfl (y_load rfl sc46 (hm.nt 0 rfl) rfl) ?_
  refine rw_p rfl rfl (y_len rfl rfl sl46) ?_
  refine rw_p rfl rfl (y_lt rfl rfl) ?_
  refine rw_done ?_
  refine gn_sq ?_
  refine HW_cond rfl rfl (fun hc0 => ?_) (fun hc0 => ?_)
  ·
    simp only [decide_eq_true_eq] at hc0
    obtain ⟨c, hi⟩ : ∃ y_, cs[x.1]? = some y_ := ⟨_, List.getElem?_eq_getElem (by omega)⟩
    have hcx := wr_get hwr hi
    have hcw := hok.ca _ (List.mem_of_getElem? hcx)
    have hci : c.i < D.cnt := hcw.1
    have hcl2 : c.d.bs.length = D.sz := hcw.2
    have hse : c.i * D.sz + D.sz ≤ D.cnt * D.sz := Pl.sec_le hci
    have hhc := hp.2 c (List.mem_of_getElem? hi)
    have hle9 := hhc.le
    obtain ⟨b2, o2_, hq⟩ := (hp9.rd hm (fun _ he => List.mem_cons_of_mem _ he)).atI encP_len (by decide) hi
    have hfl : (Pl.pers D.sz (Pl.keepB D.kp) 0 D.dk (D.ca.take x.1)).length = D.dk.length := Pl.pers_len hok.len fun d hd => hok.ca d (List.mem_of_mem_take hd)
    have hh8 := hb9.le
    simp only [hfl] at hh8
    have hhc9 := hp9.2 c (List.mem_of_getElem? hi)
    have hpl : (Pl.putS D.sz (Pl.pers D.sz (Pl.keepB D.kp) 0 D.dk (D.ca.take x.1)) (c.i, c.d.bs)).length = D.dk.length := (Pl.putS_len (hfl.trans hok.len) hci hcl2).trans hfl
    refine HW_skip rfl ?_
    refine gn_sq ?_
    refine HW_seq rfl ?_
    refine HW_block rfl ?_
    refine HW_seq rfl ?_
    refine HW_text (.pure 0 (.pure 1 (.pure 2 (.pure 3 (.pure 4 (.pure 5 (.pure 6 (.pure 7 (.pure 8 .done))))))))) (by kernel_rfl) ?_
    refine rw_p rfl rfl (y_move rfl) ?_
    refine rw_p rfl rfl (y_nil rfl) ?_
    refine rw_p rfl rfl (y_fieldAddr rfl fo48_5) ?_
    refine rw_p rfl rfl (y_load rfl sc40 (hm.nt 0 rfl) rfl) ?_
    refine rw_p rfl rfl (y_move rfl) ?_
    refine rw_p rfl rfl (y_rem rfl rfl (by omega) rfl) ?_
    refine rw_p rfl rfl (y_shr rfl rfl (Int.tmod_nonneg _ (Int.natCast_nonneg _)) rfl) ?_
    refine rw_p rfl rfl (y_and_ rfl rfl rfl) ?_
    refine rw_p rfl rfl (y_eq rfl rfl) ?_
    refine rw_done ?_
    refine gn_sq ?_
    refine HW_cond rfl rfl (fun hc1 => ?_) (fun hc1 => ?_)
    ·
      have hk1 : Pl.keepB D.kp x.1 = true := hc1
      refine HW_draw (.pure 0 (.pure 1 (.pure 2 (.pure 3 (.pure 4 (.pure 5 (.pure 6 (.pure 7 (.pure 8 (.pure 9 (.pure 10 (.pure 11 (.pure 12 (.pure 13 (.pure 14 (.pure 15 (.cut (.act 16 (.pure 17 (.pure 18 (.act 19 .done))))))))))))))))))))) No mix (by kernel_rfl) hm fun w hw hm0 hh => ?_
      have hm := hm0
      refine rw_p rfl rfl (y_move rfl) ?_
      refine rw_p rfl rfl (y_move rfl) ?_
      refine rw_p rfl rfl (y_nil rfl) ?_
      refine rw_p rfl rfl (y_fieldAddr rfl fo48_2) ?_
      refine rw_p rfl rfl (y_load rfl sc24 (hm0.nd 0 rfl id) rfl) ?_
      refine rw_p rfl rfl (y_move rfl) ?_
      refine rw_p rfl rfl (y_nil rfl) ?_
      refine rw_p rfl rfl (y_fieldAddr rfl fo48_0) ?_
      refine rw_p rfl rfl (y_load rfl sc3 (hm0.nd 0 rfl id) rfl) ?_
      refine rw_p rfl rfl (y_move rfl) ?_
      refine rw_p rfl rfl (y_nil rfl) ?_
      refine rw_p rfl rfl (y_fieldAddr rfl fo48_3) ?_
      refine rw_p rfl rfl (y_load rfl sc46 (hm0.nd 0 rfl id) rfl) ?_
      refine rw_p rfl rfl (y_move rfl) ?_
      refine rw_p rfl rfl (y_index rfl rfl sl46 hq (by omega) (by omega)) ?_
      refine rw_p rfl rfl (y_elA rfl ag55 (hq ▸ hp9.rd hm0 (fun _ he => List.mem_cons_of_mem _ he)).nd encP_len hi) ?_
      refine a_cut ?_
      refine a_call rfl rfl rfl go40 (rf_put x.2.1 x.2.2.1 (Pl.pers D.sz (Pl.keepB D.kp) 0 D.dk (D.ca.take x.1)) D.sz c.i c.d.p c.d.cap c.d.bs _ (hb9.rd hm (fun _ he => List.mem_cons_of_mem _ he)) (hhc9.rd hm (fun _ he => List.mem_cons_of_mem _ he)) (by omega) (fun h => hb9.spot h) hcl2 (by omega) (by omega) o1) fun v w hR => ?_
      obtain ⟨p_s, cap_s, g_s, b_s, rfl, ha_s, hmc⟩ := hR
      refine ⟨trivial, ?_⟩
      have hg_s : b_s.real = true → _ := fun hr => (hmc.fresh _ List.mem_cons_self hr).resolve_left id
      replace hm := hm.callN hmc
      refine rw_p rfl rfl (y_nil rfl) ?_
      refine rw_p rfl rfl (y_fieldAddr rfl fo48_2) ?_
      refine a_store rfl rfl rfl rfl sz24 rfl hm 1 rfl rfl fun w hm => ?_
      replace hm := (hm.pickT [1, 0] 2 rfl)
      have hrw9 : rfV { D with dk := Pl.putS D.sz (Pl.pers D.sz (Pl.keepB D.kp) 0 D.dk (D.ca.take x.1)) (c.i, c.d.bs) } p_s cap_s pc cc = [.int .i64 (D.sz : Int), .int .i64 (D.cnt : Int), .slice p_s (Pl.putS D.sz (Pl.pers D.sz (Pl.keepB D.kp) 0 D.dk (D.ca.take x.1)) (c.i, c.d.bs)).length cap_s, .slice pc D.ca.length cc, .int .i64 D.wr, .int .u64 D.kp, .bool D.dn, .int .i64 D.sW, .int .i64 D.sF, .int .i64 D.sC, .int .i64 D.sH, .int .i64 D.sM] := rfl
      refine rw_done ?_
      refine gn_bl ?_
      refine gn_sq ?_
      refine HW_text (.pure 0 (.pure 1 (.pure 2 .done))) (by kernel_rfl) ?_
      refine rw_p rfl rfl (y_move rfl) ?_
      refine rw_p rfl rfl (y_add rfl rfl (i64w (by omega) (by omega))) ?_
      refine rw_p rfl rfl (y_assign rfl) ?_
      refine rw_done ?_
      first | (refine next (x.1 + 1, p_s, cap_s, (g_s, b_s) :: x.2.2.2) (by simp only; omega) ⟨by simp only [Pl.pers_next hcx, hk1, cond_true]; rw [hrw9]; exact hm, ⟨g_s, b_s, by simp, by simp only [Pl.pers_next hcx, hk1, cond_true]; exact ha_s⟩, hp9.mono (fun _ he => List.mem_cons_of_mem _ he), by simp only; omega⟩ ⟨nx x.1, rfl, trivial⟩) | (refine next (x.1 + 1, x.2.1, x.2.2.1, x.2.2.2) (by simp only; omega) ⟨by simp only [Pl.pers_next hcx, hk1, cond_false]; exact hm, by simp only [Pl.pers_next hcx, hk1, cond_false]; exact hb9, hp9, by simp only; omega⟩ ⟨nx x.1, rfl, trivial⟩)
    ·
      have hk1 : Pl.keepB D.kp x.1 = false := hc1
      refine HW_skip rfl ?_
      refine gn_bl ?_
      refine gn_sq ?_
      refine HW_text (.pure 0 (.pure 1 (.pure 2 .done))) (by kernel_rfl) ?_
      refine rw_p rfl rfl (y_move rfl) ?_
      refine rw_p rfl rfl (y_add rfl rfl (i64w (by omega) (by omega))) ?_
      refine rw_p rfl rfl (y_assign rfl) ?_
      refine rw_done ?_
      first | (refine next (x.1 + 1, p_s, cap_s, (g_s, b_s) :: x.2.2.2) (by simp only; omega) ⟨by simp only [Pl.pers_next hcx, hk1, cond_true]; rw [hrw9]; exact hm, ⟨g_s, b_s, by simp, by simp only [Pl.pers_next hcx, hk1, cond_true]; exact ha_s⟩, hp9.mono (fun _ he => List.mem_cons_of_mem _ he), by simp only; omega⟩ ⟨nx x.1, rfl, trivial⟩) | (refine next (x.1 + 1, x.2.1, x.2.2.1, x.2.2.2) (by simp only; omega) ⟨by simp only [Pl.pers_next hcx, hk1, cond_false]; exact hm, by simp only [Pl.pers_next hcx, hk1, cond_false]; exact hb9, hp9, by simp only; omega⟩ ⟨nx x.1, rfl, trivial⟩)
  ·
    simp only [decide_eq_false_iff_not] at hc0
    rw [List.take_of_length_le (by omega)] at hb9 hm
    have hrow : rfV { Pl.persist D (Pl.keepB D.kp) with wr := -1, dn := true, sC := Pl.inc D.sC } x.2.1 x.2.2.1 none 0 = [.int .i64 (D.sz : Int), .int .i64 (D.cnt : Int), .slice x.2.1 (Pl.pers D.sz (Pl.keepB D.kp) 0 D.dk D.ca).length x.2.2.1, .slice none 0 0, .int .i64 (-1), .int .u64 D.kp, .bool true, .int .i64 D.sW, .int .i64 D.sF, .int .i64 (Pl.inc D.sC), .int .i64 D.sH, .int .i64 D.sM] := rfl
    refine HW_exit rfl ?_
    refine gx_sq (gx_lp ?_)
    refine gx_here ?_
    refine gn_sq ?_
    refine HW_seq rfl ?_
    refine HW_text (.pure 0 (.pure 1 (.pure 2 (.act 3 .done)))) (by kernel_rfl) ?_
    refine rw_p rfl rfl (y_move rfl) ?_
    refine rw_p rfl rfl (y_nil rfl) ?_
    refine rw_p rfl rfl (y_fieldAddr rfl fo48_3) ?_
    refine a_store rfl rfl rfl rfl sz46 rfl hm 0 rfl rfl fun w hm => ?_
    refine rw_done ?_
    refine gn_sq ?_
    refine HW_seq rfl ?_
    refine HW_text (.pure 0 (.pure 1 (.pure 2 (.act 3 .done)))) (by kernel_rfl) ?_
    refine rw_p rfl rfl (y_move rfl) ?_
    refine rw_p rfl rfl (y_nil rfl) ?_
    refine rw_p rfl rfl (y_fieldAddr rfl fo48_4) ?_
    refine a_store rfl rfl rfl rfl sz3 rfl hm 0 rfl rfl fun w hm => ?_
    refine rw_done ?_
    refine gn_sq ?_
    refine HW_seq rfl ?_
    refine HW_text (.pure 0 (.pure 1 (.pure 2 (.act 3 .done)))) (by kernel_rfl) ?_
    refine rw_p rfl rfl (y_move rfl) ?_
    refine rw_p rfl rfl (y_nil rfl) ?_
    refine rw_p rfl rfl (y_fieldAddr rfl fo48_6) ?_
    refine a_store rfl rfl rfl rfl sz4 rfl hm 0 rfl rfl fun w hm => ?_
    refine rw_done ?_
    refine gn_sq ?_
    refine HW_text (.pure 0 (.pure 1 (.pure 2 (.pure 3 (.pure 4 (.pure 5 (.pure 6 (.act 7 .done)))))))) (by kernel_rfl) ?_
    refine rw_p rfl rfl (y_move rfl) ?_
    refine rw_p rfl rfl (y_nil rfl) ?_
    refine rw_p rfl rfl (y_fieldAddr rfl fo48_9) ?_
    refine rw_p rfl rfl (y_load rfl sc3 (hm.nt 0 rfl) rfl) ?_
    refine rw_p rfl rfl (y_add rfl rfl rfl) ?_
    refine rw_p rfl rfl (y_nil rfl) ?_
    refine rw_p rfl rfl (y_fieldAddr rfl fo48_9) ?_
    refine a_store rfl rfl rfl rfl sz3 rfl hm 0 rfl rfl fun w hm => ?_
    refine rw_done ?_
    refine toN (fin hnorm rfl .nil .nil ?_)
    exact ⟨rfl, _, ref_mk (D := { Pl.persist D (Pl.keepB D.kp) with wr := -1, dn := true, sC := Pl.inc D.sC }) (pb := x.2.1) (cb := x.2.2.1) (pc := none) (cc := 0) (cs := []) (B := (0, .gap) :: x.2.2.2) (hb9.mono (fun _ he => List.mem_cons_of_mem _ he)) (heldP_nil _ _ List.mem_cons_self) rfl (let h := Pl.ok_persist hok (Pl.keepB D.kp); ⟨h.sz, h.len, h.cnt, h.max, h.ca, by simp, h.kp, h.st⟩), by rw [hrow]; exact (hm.gapIn.pickT [1, 0] 2 rfl)⟩

end Go.Proofs.Ythokcfkcamcapaa
