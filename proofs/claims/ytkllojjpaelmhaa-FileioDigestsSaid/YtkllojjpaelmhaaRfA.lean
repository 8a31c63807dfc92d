/- Contracts of functions of the program: what each returns. Conditions: the hypotheses of each theorem. -/
import Derived.Test.YtkllojjpaelmhaaDevD
import Derived.Test.YtkllojjpaelmhaaCyA
set_option linter.unusedVariables false
set_option linter.unusedSimpArgs false
namespace Go.Proofs.Ytkllojjpaelmhaa
open Go Go.Cx

theorem fo87_0 : fldO Try.prog 87 0 = some 0 := by kernel_rfl
theorem fo87_1 : fldO Try.prog 87 1 = some 1 := by kernel_rfl
theorem ag87 : aggS Try.prog 87 = some 2 := by kernel_rfl
theorem fo52_0 : fldO Try.prog 52 0 = some 0 := by kernel_rfl
theorem fo52_2 : fldO Try.prog 52 2 = some 2 := by kernel_rfl
theorem fo52_3 : fldO Try.prog 52 3 = some 3 := by kernel_rfl
theorem go55 : isGo Try.prog 55 = true := by kernel_rfl
theorem sc50 : scal Try.prog 50 = true := by kernel_rfl
theorem sl50 : slcO Try.prog 50 = some (87, 2, 32) := by kernel_rfl
theorem fo52_1 : fldO Try.prog 52 1 = some 1 := by kernel_rfl
theorem fo52_6 : fldO Try.prog 52 6 = some 6 := by kernel_rfl
theorem go43 : isGo Try.prog 43 = true := by kernel_rfl

set_option maxHeartbeats 800000 in
theorem rf_put (p : Option Addr) (cap : Nat) (f : List UInt8) (sz i : Nat) (q : Option Addr) (cq : Nat) (bs : List UInt8) (w0 : World) (hp : Rd w0 p (f.flatMap encB)) (hq : Rd w0 q (bs.flatMap encB)) (hle : f.length ≤ cap) (hsp : cap ≠ 0 → ∀ ad, p = some ad → ad.spot = none) (hb : bs.length = sz) (hi : i * sz + sz ≤ f.length) (hf : f.length ≤ 1048576) (h1 : 1 ≤ sz) : C Try.prog 55 [.slice p f.length cap, .int .i64 (sz : Int), .agg ⟨[.int .i64 (i : Int), .slice q bs.length cq]⟩] w0 fun v w' => ∃ q c g b, v = .slice q (Pl.putS sz f (i, bs)).length c ∧ Acc 5 1 q ((Pl.putS sz f (i, bs))).length c (((Pl.putS sz f (i, bs))).flatMap encB) g b ∧ Mem w0 w' No [(g, b)] := by
  have hi1 : (i + 1) * sz = i * sz + sz := by rw [Nat.add_mul, Nat.one_mul]
  have hi0 : i ≤ i * sz := Nat.le_mul_of_pos_right _ h1
  have hpl : (Pl.putS sz f (i, bs)).length = f.length := Pl.put_length (by rw [hb]; exact hi)
  refine C_of Try.func55 rfl rfl rfl fun κ hret hnorm => ?_
  have hm := Mem.start w0
  refine HW_seq rfl ?_
  refine HW_text (.act 0 (.pure 1 .done)) (by kernel_rfl) ?_
  refine a_box rfl rfl rfl rfl hm trivial fun m1 w hg_m1 hm hh => ?_
  refine rw_p rfl rfl (y_assign rfl) ?_
  refine rw_done ?_
  refine gn_sq ?_
  refine HW_seq rfl ?_
  refine HW_text (.act 0 (.pure 1 (.pure 2 (.pure 3 (.pure 4 (.pure 5 (.pure 6 (.act 7 (.pure 8 .done))))))))) (by kernel_rfl) ?_
  refine a_buildSlice (l := []) rfl rfl sl27 z5 rfl rfl rfl rfl rfl rfl rfl hm trivial fun m2 w hg_m2 hm hh => ?_
  refine rw_p rfl rfl (y_move rfl) ?_
  refine rw_p rfl rfl (y_fieldAddr rfl fo87_0) ?_
  refine rw_p rfl rfl (y_load rfl sc3 (hm.nt 1 rfl) rfl) ?_
  refine rw_p rfl rfl (y_move rfl) ?_
  refine rw_p rfl rfl (y_mul rfl rfl (mulN (by omega))) ?_
  refine rw_p rfl rfl (y_v (y_slice (ln := 0) (hn := (i * sz)) rfl sl27 rfl ⟨_, rfl⟩ (Nat.zero_le _) (by omega) (fun h => hsp (by omega))) (show _ = Value.slice (slp p cap 0 1) (f.take (i * sz)).length cap by rw [List.length_take, Nat.min_eq_left (by omega)]; rfl)) ?_
  refine a_append rfl rfl rfl rfl rfl rfl sl27 sl27 z5 rfl (oneB _) ((hp.ext0 hm.to).takeV hle) (lenB _) (Acc.row rfl) hm 0 rfl (by rw [List.length_take]; omega) (by rw [List.length_take]; omega) fun p_s cap_s g_s b_s w ha_s hm => ?_
  replace ha_s := ha_s.to (show _ = (f.take (i * sz)).flatMap encB from List.nil_append _)
  refine rw_p rfl rfl (y_assign rfl) ?_
  refine rw_done ?_
  refine gn_sq ?_
  refine HW_seq rfl ?_
  refine HW_text (.pure 0 (.pure 1 (.pure 2 (.act 3 (.pure 4 .done))))) (by kernel_rfl) ?_
  refine rw_p rfl rfl (y_move rfl) ?_
  refine rw_p rfl rfl (y_fieldAddr rfl fo87_1) ?_
  refine rw_p rfl rfl (y_load rfl sc27 (hm.nt 1 rfl) rfl) ?_
  refine a_append rfl rfl rfl rfl rfl rfl sl27 sl27 z5 rfl (oneB _) (hq.ext0 hm.to) (lenB _) ha_s hm 0 rfl (by rw [List.length_take]; omega) (by rw [List.length_take]; omega) fun p_s cap_s g_s b_s w ha_s hm => ?_
  refine rw_p rfl rfl (y_assign rfl) ?_
  refine rw_done ?_
  refine gn_sq ?_
  refine HW_seq rfl ?_
  refine HW_text (.pure 0 (.pure 1 (.pure 2 (.pure 3 (.pure 4 (.pure 5 (.pure 6 (.pure 7 (.act 8 (.pure 9 .done)))))))))) (by kernel_rfl) ?_
  refine rw_p rfl rfl (y_move rfl) ?_
  refine rw_p rfl rfl (y_move rfl) ?_
  refine rw_p rfl rfl (y_fieldAddr rfl fo87_0) ?_
  refine rw_p rfl rfl (y_load rfl sc3 (hm.nt 1 rfl) rfl) ?_
  refine rw_p rfl rfl (y_add rfl rfl (addN (by omega))) ?_
  refine rw_p rfl rfl (y_move rfl) ?_
  refine rw_p rfl rfl (y_mul rfl rfl (mulN (by omega))) ?_
  refine rw_p rfl rfl (y_v (y_slice (ln := ((i + 1) * sz)) (hn := f.length) rfl sl27 ⟨_, rfl⟩ rfl (by omega) hle (fun h => hsp (by omega))) (show _ = Value.slice (slp p cap ((i + 1) * sz) 1) (f.drop ((i + 1) * sz)).length (cap - (i + 1) * sz) by rw [List.length_drop])) ?_
  refine a_append rfl rfl rfl rfl rfl rfl sl27 sl27 z5 rfl (oneB _) ((hp.ext0 hm.to).dropV hle) (lenB _) ha_s hm 0 rfl (by rw [List.length_take, List.length_drop]; omega) (by rw [List.length_take, List.length_drop]; omega) fun p_s cap_s g_s b_s w ha_s hm => ?_
  replace ha_s := ha_s.to (show _ = (Pl.putS sz f (i, bs)).flatMap encB by rw [← Pl.putS_eq sz f i bs hb, List.flatMap_append, List.flatMap_append])
  have hns := ha_s.lenB
  refine rw_p rfl rfl (y_assign rfl) ?_
  refine rw_done ?_
  refine gn_sq ?_
  refine HW_ret rfl ?_
  refine toR (fin hret rfl (.tmp rfl .nil) .one ?_)
  exact ⟨p_s, cap_s, g_s, b_s, by rw [← hns], by rw [← hns]; exact ha_s, (hm.pick [0] rfl)⟩

set_option maxHeartbeats 800000 in
theorem rf_contents (D : Pl.Dv) (m : Nat) (pb : Option Addr) (cb : Nat) (pc : Option Addr) (cc : Nat) (cs : List PdV) (B : List (Nat × Blk)) (w0 : World) (hZ : OwnZ w0 ((m, .row 52 (rfV D pb cb pc cc)) :: B)) (hb : Held B 5 ⟨pb, cb, D.dk⟩) (hp : HeldP B 87 5 pc cc cs) (hwr : cs.map PdV.wr = D.ca) (hok : Pl.okDv D) (hcl : D.ca.length ≤ 2000000000) : C Try.prog 43 [.pointer (some ⟨m, 0, none⟩)] w0 fun v w' => ∃ (q : Option Addr) (c : Nat) (N : List (Nat × Blk)), v = .slice q (Pl.contents D).length c ∧ Held (N ++ B) 5 ⟨q, c, Pl.contents D⟩ ∧ Mem w0 w' No N := by
  have hP : w0.heap[m]? = some (Blk.toObj (.row 52 (rfV D pb cb pc cc))) := hZ.get (k := 0) rfl
  have o1 := hok.sz
  have o2 := hok.len
  have o3 := hok.cnt
  have o4 := hok.max
  have o5 : D.cnt ≤ D.cnt * D.sz := Nat.le_mul_of_pos_right _ o1
  have o6 := hb.le
  have o8 := hp.le
  simp only at o6
  have hCl := wr_len hwr
  have hBR := hb.rdO hZ.tail
  have hCR := hp.rdO hZ (fun _ he => List.mem_cons_of_mem _ he)
  have o9 : D.sz ≤ D.cnt * D.sz := Nat.le_mul_of_pos_left _ o3
  refine C_of Try.func43 rfl rfl rfl fun κ hret hnorm => ?_
  have hm := Mem.start w0
  refine HW_seq rfl ?_
  refine HW_text (.pure 0 .done) (by kernel_rfl) ?_
  refine rw_p rfl rfl (y_assign rfl) ?_
  refine rw_done ?_
  refine gn_sq ?_
  refine HW_seq rfl ?_
  refine HW_text (.pure 0 (.pure 1 (.pure 2 (.pure 3 (.pure 4 .done))))) (by kernel_rfl) ?_
  refine rw_p rfl rfl (y_move rfl) ?_
  refine rw_p rfl rfl (y_nil rfl) ?_
  refine rw_p rfl rfl (y_fieldAddr rfl fo52_2) ?_
  refine rw_p rfl rfl (y_load rfl sc27 (nowT ((hm.to.same _ (Array.getElem?_eq_some_iff.1 hP).1 id).trans hP)) rfl) ?_
  refine rw_p rfl rfl (y_assign rfl) ?_
  refine rw_done ?_
  refine gn_sq ?_
  refine HW_seq rfl ?_
  refine HW_seq rfl ?_
  refine HW_text (.pure 0 .done) (by kernel_rfl) ?_
  refine rw_p rfl rfl (y_assign rfl) ?_
  refine rw_done ?_
  refine gn_sq ?_
  refine HW_block rfl ?_
  refine HW_loopK (ι := Nat × Option Addr × Nat × List (Nat × Blk)) rfl (ks := [0, 2]) (.cons rfl (.cons rfl .nil)) (fun x => [(4, .int .i64 x.1), (3, .slice x.2.1 D.dk.length x.2.2.1)]) (fun x w => Mem w0 w No x.2.2.2 ∧ Held (x.2.2.2 ++ B) 5 ⟨x.2.1, x.2.2.1, ((D.ca.take x.1).foldl (Pl.putS D.sz) D.dk)⟩ ∧ x.1 ≤ D.ca.length) (fun x => D.ca.length - x.1) (0, pb, cb, []) (⟨hm, hb, Nat.zero_le _⟩) ⟨rfl, rfl, trivial⟩ (fun x w hM => ?_)
  obtain ⟨hm, hh9, hk⟩ := hM
  refine HW_seq rfl ?_
  refine HW_seq rfl ?_
  refine HW_text (.pure 0 (.pure 1 (.pure 2 (.pure 3 (.pure 4 (.pure 5 (.pure 6 .done))))))) (by kernel_rfl) ?_
  refine rw_p rfl rfl (y_move rfl) ?_
  refine rw_p rfl rfl (y_move rfl) ?_
  refine rw_p rfl rfl (y_nil rfl) ?_
  refine rw_p rfl rfl (y_fieldAddr rfl fo52_3) ?_
  refine rw_p rfl rfl (y_load rfl sc50 (nowT ((hm.to.same _ (Array.getElem?_eq_some_iff.1 hP).1 id).trans hP)) rfl) ?_
  refine rw_p rfl rfl (y_len rfl rfl sl50) ?_
  refine rw_p rfl rfl (y_lt rfl rfl) ?_
  refine rw_done ?_
  refine gn_sq ?_
  refine HW_cond rfl rfl (fun hc0 => ?_) (fun hc0 => ?_)
  ·
    simp only [decide_eq_true_eq] at hc0
    obtain ⟨c, hi⟩ : ∃ y_, cs[x.1]? = some y_ := ⟨_, List.getElem?_eq_getElem (by omega)⟩
    have hcx := wr_get hwr hi
    have hcw := hok.ca _ (List.mem_of_getElem? hcx)
    have hci : c.i < D.cnt := hcw.1
    have hcl2 : c.d.bs.length = D.sz := hcw.2
    have hse : c.i * D.sz + D.sz ≤ D.cnt * D.sz := Pl.sec_le hci
    have hhc := hp.2 c (List.mem_of_getElem? hi)
    have hle9 := hhc.le
    obtain ⟨b2, o2_, hq⟩ := hCR.atI encP_len (by decide) hi
    have hfl : ((D.ca.take x.1).foldl (Pl.putS D.sz) D.dk).length = D.dk.length := Pl.fold_len hok.len fun d hd => hok.ca d (List.mem_of_mem_take hd)
    have hh8 := hh9.le
    simp only [hfl] at hh8
    have hpl : (Pl.putS D.sz ((D.ca.take x.1).foldl (Pl.putS D.sz) D.dk) (c.i, c.d.bs)).length = D.dk.length := (Pl.putS_len (hfl.trans hok.len) hci hcl2).trans hfl
    refine HW_skip rfl ?_
    refine gn_sq ?_
    refine HW_seq rfl ?_
    refine HW_block rfl ?_
    refine HW_draw (.pure 0 (.pure 1 (.pure 2 (.pure 3 (.pure 4 (.pure 5 (.pure 6 (.pure 7 (.pure 8 (.pure 9 (.pure 10 (.pure 11 (.cut (.act 12 (.pure 13 .done))))))))))))))) No mix (by kernel_rfl) hm fun w hw hm0 hh => ?_
    have hm := hm0
    refine rw_p rfl rfl (y_move rfl) ?_
    refine rw_p rfl rfl (y_move rfl) ?_
    refine rw_p rfl rfl (y_nil rfl) ?_
    refine rw_p rfl rfl (y_fieldAddr rfl fo52_0) ?_
    refine rw_p rfl rfl (y_load rfl sc3 (fun u hu => ((hm0.to.trans hu).same _ (Array.getElem?_eq_some_iff.1 hP).1 id).trans hP) rfl) ?_
    refine rw_p rfl rfl (y_move rfl) ?_
    refine rw_p rfl rfl (y_nil rfl) ?_
    refine rw_p rfl rfl (y_fieldAddr rfl fo52_3) ?_
    refine rw_p rfl rfl (y_load rfl sc50 (fun u hu => ((hm0.to.trans hu).same _ (Array.getElem?_eq_some_iff.1 hP).1 id).trans hP) rfl) ?_
    refine rw_p rfl rfl (y_move rfl) ?_
    refine rw_p rfl rfl (y_index rfl rfl sl50 hq (by omega) (by omega)) ?_
    refine rw_p rfl rfl (y_elA rfl ag87 (hq ▸ hCR.ext0 hm0.to).nd encP_len hi) ?_
    refine a_cut ?_
    refine a_call rfl rfl rfl go55 (C.eqv (rf_put x.2.1 x.2.2.1 ((D.ca.take x.1).foldl (Pl.putS D.sz) D.dk) D.sz c.i c.d.p c.d.cap c.d.bs _ (hh9.rd2 hZ (fun _ he => List.mem_cons_of_mem _ he) hm) ((hhc.rdO hZ.tail).ext0 hm.to) (by omega) (fun h => hh9.spot h) hcl2 (by omega) (by omega) o1) (by rw [hfl]; rfl)) fun v w hR => ?_
    obtain ⟨p_s, cap_s, g_s, b_s, rfl, ha_s, hmc⟩ := hR
    refine ⟨trivial, ?_⟩
    have hg_s : b_s.real = true → _ := fun hr => (hmc.fresh _ List.mem_cons_self hr).resolve_left id
    replace hm := hm.callN hmc
    refine rw_p rfl rfl (y_assign rfl) ?_
    refine rw_done ?_
    refine gn_bl ?_
    refine gn_sq ?_
    refine HW_text (.pure 0 (.pure 1 (.pure 2 .done))) (by kernel_rfl) ?_
    refine rw_p rfl rfl (y_move rfl) ?_
    refine rw_p rfl rfl (y_add rfl rfl (i64w (by omega) (by omega))) ?_
    refine rw_p rfl rfl (y_assign rfl) ?_
    refine rw_done ?_
    refine next (x.1 + 1, p_s, cap_s, (g_s, b_s) :: x.2.2.2) (by simp only; omega) ⟨(hm.pickT [0] 1 rfl), ⟨g_s, b_s, by simp, ?_⟩, by simp only; omega⟩ ⟨nx x.1, by rw [hpl]; rfl, rfl, rfl, trivial⟩
    simp only [Pl.fold_next hcx]
    exact ha_s
  ·
    simp only [decide_eq_false_iff_not] at hc0
    rw [List.take_of_length_le (by omega)] at hh9
    have hcl9 : (Pl.contents D).length = D.dk.length := Pl.fold_len hok.len hok.ca
    refine HW_exit rfl ?_
    refine gx_sq (gx_lp ?_)
    refine gx_here ?_
    refine gn_sq ?_
    refine HW_seq rfl ?_
    refine HW_text (.pure 0 (.pure 1 .done)) (by kernel_rfl) ?_
    refine rw_p rfl rfl (y_move rfl) ?_
    refine rw_p rfl rfl (y_assign rfl) ?_
    refine rw_done ?_
    refine gn_sq ?_
    refine HW_ret rfl ?_
    refine toR (fin hret rfl (.tmp rfl .nil) .one ?_)
    exact ⟨x.2.1, x.2.2.1, x.2.2.2, by rw [hcl9], hh9, hm⟩

set_option maxHeartbeats 800000 in
theorem rf_read (D : Pl.Dv) (m : Nat) (pb : Option Addr) (cb : Nat) (pc : Option Addr) (cc : Nat) (cs : List PdV) (B : List (Nat × Blk)) (w0 : World) (hZ : OwnZ w0 ((m, .row 52 (rfV D pb cb pc cc)) :: B)) (hb : Held B 5 ⟨pb, cb, D.dk⟩) (hp : HeldP B 87 5 pc cc cs) (hwr : cs.map PdV.wr = D.ca) (hok : Pl.okDv D) (hcl : D.ca.length ≤ 2000000000) (i : Int) : C Try.prog 45 [.pointer (some ⟨m, 0, none⟩), .int .i64 i] w0 fun v w' => ∃ (q : Option Addr) (c : Nat), v = .tuple ⟨[.slice q (if Pl.codeAt D i = 0 then Pl.rdS D i else []).length c, .int .i64 (Pl.codeAt D i)]⟩ ∧ Rd w' q ((if Pl.codeAt D i = 0 then Pl.rdS D i else []).flatMap encB) ∧ Ext No w0 w' := by
  have hP : w0.heap[m]? = some (Blk.toObj (.row 52 (rfV D pb cb pc cc))) := hZ.get (k := 0) rfl
  have o1 := hok.sz
  have o2 := hok.len
  have o3 := hok.cnt
  have o4 := hok.max
  have o5 : D.cnt ≤ D.cnt * D.sz := Nat.le_mul_of_pos_right _ o1
  have o6 := hb.le
  have o8 := hp.le
  simp only at o6
  have hCl := wr_len hwr
  have hBR := hb.rdO hZ.tail
  have hCR := hp.rdO hZ (fun _ he => List.mem_cons_of_mem _ he)
  have o9 : D.sz ≤ D.cnt * D.sz := Nat.le_mul_of_pos_left _ o3
  have hcd : Pl.codeAt D i = if D.dn = true then 18 else if i < 0 ∨ (D.cnt : Int) ≤ i then 2 else 0 := rfl
  have hlc : (Pl.contents D).length = D.dk.length := Pl.fold_len hok.len hok.ca
  refine C_of Try.func45 rfl rfl rfl fun κ hret hnorm => ?_
  have hm := Mem.start w0
  refine HW_seq rfl ?_
  refine HW_text (.pure 0 (.pure 1 .done)) (by kernel_rfl) ?_
  refine rw_p rfl rfl (y_assign rfl) ?_
  refine rw_p rfl rfl (y_assign rfl) ?_
  refine rw_done ?_
  refine gn_sq ?_
  refine HW_seq rfl ?_
  refine HW_seq rfl ?_
  refine HW_text (.pure 0 (.pure 1 (.pure 2 (.pure 3 .done)))) (by kernel_rfl) ?_
  refine rw_p rfl rfl (y_move rfl) ?_
  refine rw_p rfl rfl (y_nil rfl) ?_
  refine rw_p rfl rfl (y_fieldAddr rfl fo52_6) ?_
  refine rw_p rfl rfl (y_load rfl sc4 (nowT ((hm.to.same _ (Array.getElem?_eq_some_iff.1 hP).1 id).trans hP)) rfl) ?_
  refine rw_done ?_
  refine gn_sq ?_
  refine HW_cond rfl rfl (fun hc0 => ?_) (fun hc0 => ?_)
  ·
    have hc9 : Pl.codeAt D i = 18 := by rw [hcd, if_pos hc0]
    refine HW_seq rfl ?_
    refine HW_text (.pure 0 (.pure 1 .done)) (by kernel_rfl) ?_
    refine rw_p rfl rfl (y_assign rfl) ?_
    refine rw_p rfl rfl (y_assign rfl) ?_
    refine rw_done ?_
    refine gn_sq ?_
    refine HW_ret rfl ?_
    refine gr_sq ?_
    refine toR (fin hret rfl (.tmp rfl (.tmp rfl .nil)) .more ?_)
    exact ⟨none, 0, by rw [hc9]; rfl, by rw [hc9]; exact rfl, hm.to⟩
  ·
    refine HW_skip rfl ?_
    refine gn_sq ?_
    refine HW_seq rfl ?_
    refine HW_seq rfl ?_
    refine HW_text (.pure 0 (.pure 1 (.pure 2 (.pure 3 (.pure 4 (.pure 5 (.pure 6 (.pure 7 (.pure 8 (.pure 9 .done)))))))))) (by kernel_rfl) ?_
    refine rw_p rfl rfl (y_move rfl) ?_
    refine rw_p rfl rfl (y_lt rfl rfl) ?_
    refine rw_p rfl rfl (y_move rfl) ?_
    refine rw_g rfl rfl rfl (fun hc => (y_move rfl)) ?_
    refine rw_g rfl rfl rfl (fun hc => (y_move rfl)) ?_
    refine rw_g rfl rfl rfl (fun hc => (y_nil (gx hc rfl))) ?_
    refine rw_g rfl rfl rfl (fun hc => (y_fieldAddr (gx hc rfl) fo52_1)) ?_
    refine rw_g rfl rfl rfl (fun hc => (y_load (gx hc rfl) sc3 (nowT ((hm.to.same _ (Array.getElem?_eq_some_iff.1 hP).1 id).trans hP)) rfl)) ?_
    refine rw_g rfl rfl rfl (fun hc => (y_ge (gx hc rfl) (gx hc rfl))) ?_
    refine rw_p rfl rfl (y_or rfl rfl rfl) ?_
    refine rw_done ?_
    refine gn_sq ?_
    refine HW_cond rfl rfl (fun hc1 => ?_) (fun hc1 => ?_)
    ·
      simp only [Bool.or_eq_true, decide_eq_true_eq] at hc1
      have hc9 : Pl.codeAt D i = 2 := by rw [hcd, if_neg (by simp [hc0]), if_pos (by omega)]
      refine HW_seq rfl ?_
      refine HW_text (.pure 0 (.pure 1 .done)) (by kernel_rfl) ?_
      refine rw_p rfl rfl (y_assign rfl) ?_
      refine rw_p rfl rfl (y_assign rfl) ?_
      refine rw_done ?_
      refine gn_sq ?_
      refine HW_ret rfl ?_
      refine gr_sq ?_
      refine toR (fin hret rfl (.tmp rfl (.tmp rfl .nil)) .more ?_)
      exact ⟨none, 0, by rw [hc9]; rfl, by rw [hc9]; exact rfl, hm.to⟩
    ·
      simp only [Bool.or_eq_false_iff, decide_eq_false_iff_not] at hc1
      have hc9 : Pl.codeAt D i = 0 := by rw [hcd, if_neg (by simp [hc0]), if_neg (by omega)]
      obtain ⟨ii, rfl⟩ : ∃ ii : Nat, i = ii := ⟨i.toNat, by omega⟩
      have hse : ii * D.sz + D.sz ≤ D.cnt * D.sz := Pl.sec_le (by omega)
      have hi1 : (ii + 1) * D.sz = ii * D.sz + D.sz := by rw [Nat.add_mul, Nat.one_mul]
      have hrl : (Pl.rdS D (ii : Int)).length = D.sz := by unfold Pl.rdS; rw [List.length_take, List.length_drop, Int.toNat_natCast]; omega
      refine HW_skip rfl ?_
      refine gn_sq ?_
      refine HW_seq rfl ?_
      refine HW_draw (.pure 0 (.pure 2 (.pure 3 (.pure 4 (.pure 5 (.pure 6 (.pure 7 (.pure 8 (.pure 9 (.pure 10 (.pure 11 (.pure 12 (.pure 13 (.pure 14 (.act 1 (.pure 15 (.pure 16 (.pure 17 .done)))))))))))))))))) No mix (by kernel_rfl) hm fun w hw hm0 hh => ?_
      have hm := hm0
      refine rw_p rfl rfl (y_move rfl) ?_
      refine rw_p rfl rfl (y_move rfl) ?_
      refine rw_p rfl rfl (y_move rfl) ?_
      refine rw_p rfl rfl (y_nil rfl) ?_
      refine rw_p rfl rfl (y_fieldAddr rfl fo52_0) ?_
      refine rw_p rfl rfl (y_load rfl sc3 (fun u hu => ((hm0.to.trans hu).same _ (Array.getElem?_eq_some_iff.1 hP).1 id).trans hP) rfl) ?_
      refine rw_p rfl rfl (y_mul rfl rfl (mulN (by omega))) ?_
      refine rw_p rfl rfl (y_move rfl) ?_
      refine rw_p rfl rfl (y_add rfl rfl (addN (by omega))) ?_
      refine rw_p rfl rfl (y_move rfl) ?_
      refine rw_p rfl rfl (y_nil rfl) ?_
      refine rw_p rfl rfl (y_fieldAddr rfl fo52_0) ?_
      refine rw_p rfl rfl (y_load rfl sc3 (fun u hu => ((hm0.to.trans hu).same _ (Array.getElem?_eq_some_iff.1 hP).1 id).trans hP) rfl) ?_
      refine rw_p rfl rfl (y_mul rfl rfl (mulN (by omega))) ?_
      refine a_call rfl rfl rfl go43 (rf_contents D m pb cb pc cc cs B _ (hZ.ext hm.to) hb hp hwr hok hcl) fun v w hR => ?_
      obtain ⟨p_t, cap_t, Nt, rfl, hh_t, hmc⟩ := hR
      refine ⟨hh.ext hmc.to, ?_⟩
      replace hm := Mem.callT0 hm hmc
      have hl_t := hh_t.le
      simp only at hl_t
      refine rw_p rfl rfl (y_v (y_slice (ln := (ii * D.sz)) (hn := ((ii + 1) * D.sz)) rfl sl27 ⟨_, rfl⟩ ⟨_, rfl⟩ (by omega) (by omega) (fun h => hh_t.spot (by show cap_t ≠ 0; omega))) (show _ = Value.slice (slp p_t cap_t (ii * D.sz) 1) (Pl.rdS D (ii : Int)).length (cap_t - ii * D.sz) by rw [hrl, hi1, Nat.add_sub_cancel_left])) ?_
      refine rw_p rfl rfl (y_assign rfl) ?_
      refine rw_p rfl rfl (y_assign rfl) ?_
      refine rw_done ?_
      refine gn_sq ?_
      refine HW_ret rfl ?_
      refine toR (fin hret rfl (.tmp rfl (.tmp rfl .nil)) .more ?_)
      exact ⟨_, _, by rw [hc9]; rfl, by rw [hc9]; exact ((hh_t.rd2 hZ (fun _ he => List.mem_cons_of_mem _ he) hm).sub hl_t), hm.to⟩

end Go.Proofs.Ytkllojjpaelmhaa
