/- Contracts of functions of the program: what each returns. Conditions: the hypotheses of each theorem. -/
import Derived.Test.YthailbggeafckaaGreatDev
set_option linter.unusedVariables false
set_option linter.unusedSimpArgs false
namespace Go.Proofs.YthailbggeafckaaGreat
open Go Go.Cx

theorem fo172_0 : fldO Tryz.prog 172 0 = some 0 := by kernel_rfl
theorem fo172_1 : fldO Tryz.prog 172 1 = some 1 := by kernel_rfl
theorem ag172 : aggS Tryz.prog 172 = some 2 := by kernel_rfl
theorem fo50_0 : fldO Tryz.prog 50 0 = some 0 := by kernel_rfl
theorem fo50_2 : fldO Tryz.prog 50 2 = some 2 := by kernel_rfl
theorem fo50_3 : fldO Tryz.prog 50 3 = some 3 := by kernel_rfl
theorem go99 : isGo Tryz.prog 99 = true := by kernel_rfl
theorem sc48 : scal Tryz.prog 48 = true := by kernel_rfl
theorem sl48 : slcO Tryz.prog 48 = some (172, 2, 32) := by kernel_rfl
theorem fo50_1 : fldO Tryz.prog 50 1 = some 1 := by kernel_rfl
theorem fo50_6 : fldO Tryz.prog 50 6 = some 6 := by kernel_rfl
theorem go65 : isGo Tryz.prog 65 = true := by kernel_rfl
theorem fo50_8 : fldO Tryz.prog 50 8 = some 8 := by kernel_rfl
theorem sz22 : szO Tryz.prog 22 = some 1 := by kernel_rfl
theorem sz48 : szO Tryz.prog 48 = some 1 := by kernel_rfl
theorem fo50_4 : fldO Tryz.prog 50 4 = some 4 := by kernel_rfl
theorem fo50_5 : fldO Tryz.prog 50 5 = some 5 := by kernel_rfl
theorem fo50_9 : fldO Tryz.prog 50 9 = some 9 := by kernel_rfl
theorem fo50_10 : fldO Tryz.prog 50 10 = some 10 := by kernel_rfl
theorem fo50_11 : fldO Tryz.prog 50 11 = some 11 := by kernel_rfl
theorem fo50_7 : fldO Tryz.prog 50 7 = some 7 := by kernel_rfl
theorem ft172 : fldT Tryz.prog 172 = some [(0, 1), (1, 1)] := by kernel_rfl
theorem go103 : isGo Tryz.prog 103 = true := by kernel_rfl
theorem z172 : zer Tryz.prog 172 = some [.int .i64 0, .slice none 0 0] := by kernel_rfl
theorem ft50 : fldT Tryz.prog 50 = some [(0, 1), (1, 1), (2, 1), (3, 1), (4, 1), (5, 1), (6, 1), (7, 1), (8, 1), (9, 1), (10, 1), (11, 1)] := by kernel_rfl
theorem z50 : zer Tryz.prog 50 = some [.int .i64 0, .int .i64 0, .slice none 0 0, .slice none 0 0, .int .i64 0, .int .u64 0, .bool false, .int .i64 0, .int .i64 0, .int .i64 0, .int .i64 0, .int .i64 0] := by kernel_rfl

set_option maxHeartbeats 800000 in
theorem rf_put (p : Option Addr) (cap : Nat) (f : List UInt8) (sz i : Nat) (q : Option Addr) (cq : Nat) (bs : List UInt8) (w0 : World) (hp : Rd w0 p (f.flatMap encB)) (hq : Rd w0 q (bs.flatMap encB)) (hle : f.length ≤ cap) (hsp : cap ≠ 0 → ∀ ad, p = some ad → ad.spot = none) (hb : bs.length = sz) (hi : i * sz + sz ≤ f.length) (hf : f.length ≤ 1048576) (h1 : 1 ≤ sz) : C Tryz.prog 99 [.slice p f.length cap, .int .i64 (sz : Int), .agg ⟨[.int .i64 (i : Int), .slice q bs.length cq]⟩] w0 fun v w' => ∃ q c g b, v = .slice q (Pl.putS sz f (i, bs)).length c ∧ Acc 5 1 q ((Pl.putS sz f (i, bs))).length c (((Pl.putS sz f (i, bs))).flatMap encB) g b ∧ Mem w0 w' No [(g, b)] := by
  have hi1 : (i + 1) * sz = i * sz + sz := by rw [Nat.add_mul, Nat.one_mul]
  have hi0 : i ≤ i * sz := Nat.le_mul_of_pos_right _ h1
  have hpl : (Pl.putS sz f (i, bs)).length = f.length := Pl.put_length (by rw [hb]; exact hi)
  refine C_of Tryz.func99 rfl rfl rfl fun κ hret hnorm => ?_
  have hm := Mem.start w0
  refine HW_seq rfl ?_
  refine HW_text (.act 0 (.pure 1 .done)) (by kernel_rfl) ?_
  refine a_box rfl rfl rfl rfl hm trivial fun m1 w hg_m1 hm hh => ?_
  refine rw_p rfl rfl (y_assign rfl) ?_
  refine rw_done ?_
  refine gn_sq ?_
  refine HW_seq rfl ?_
  refine HW_text (.act 0 (.pure 1 (.pure 2 (.pure 3 (.pure 4 (.pure 5 (.pure 6 (.act 7 (.pure 8 .done))))))))) (by kernel_rfl) ?_
  refine a_buildSlice (l := []) rfl rfl sl22 z5 rfl rfl rfl rfl rfl rfl rfl hm trivial fun m2 w hg_m2 hm hh => ?_
  refine rw_p rfl rfl (y_move rfl) ?_
  refine rw_p rfl rfl (y_fieldAddr rfl fo172_0) ?_
  refine rw_p rfl rfl (y_load rfl sc3 (hm.nt 1 rfl) rfl) ?_
  refine rw_p rfl rfl (y_move rfl) ?_
  refine rw_p rfl rfl (y_mul rfl rfl (mulN (by omega))) ?_
  refine rw_p rfl rfl (y_v (y_slice (ln := 0) (hn := (i * sz)) rfl sl22 rfl ⟨_, rfl⟩ (Nat.zero_le _) (by omega) (fun h => hsp (by omega))) (show _ = Value.slice (slp p cap 0 1) (f.take (i * sz)).length cap by rw [List.length_take, Nat.min_eq_left (by omega)]; rfl)) ?_
  refine a_append rfl rfl rfl rfl rfl rfl sl22 sl22 z5 rfl (oneB _) ((hp.ext0 hm.to).takeV hle) (lenB _) (Acc.row rfl) hm 0 rfl (by rw [List.length_take]; omega) (by rw [List.length_take]; omega) fun p_s cap_s g_s b_s w ha_s hm => ?_
  replace ha_s := ha_s.to (show _ = (f.take (i * sz)).flatMap encB from List.nil_append _)
  refine rw_p rfl rfl (y_assign rfl) ?_
  refine rw_done ?_
  refine gn_sq ?_
  refine HW_seq rfl ?_
  refine HW_text (.pure 0 (.pure 1 (.pure 2 (.act 3 (.pure 4 .done))))) (by kernel_rfl) ?_
  refine rw_p rfl rfl (y_move rfl) ?_
  refine rw_p rfl rfl (y_fieldAddr rfl fo172_1) ?_
  refine rw_p rfl rfl (y_load rfl sc22 (hm.nt 1 rfl) rfl) ?_
  refine a_append rfl rfl rfl rfl rfl rfl sl22 sl22 z5 rfl (oneB _) (hq.ext0 hm.to) (lenB _) ha_s hm 0 rfl (by rw [List.length_take]; omega) (by rw [List.length_take]; omega) fun p_s cap_s g_s b_s w ha_s hm => ?_
  refine rw_p rfl rfl (y_assign rfl) ?_
  refine rw_done ?_
  refine gn_sq ?_
  refine HW_seq rfl ?_
  refine HW_text (.pure 0 (.pure 1 (.pure 2 (.pure 3 (.pure 4 (.pure 5 (.pure 6 (.pure 7 (.act 8 (.pure 9 .done)))))))))) (by kernel_rfl) ?_
  refine rw_p rfl rfl (y_move rfl) ?_
  refine rw_p rfl rfl (y_move rfl) ?_
  refine rw_p rfl rfl (y_fieldAddr rfl fo172_0) ?_
  refine rw_p rfl rfl (y_load rfl sc3 (hm.nt 1 rfl) rfl) ?_
  refine rw_p rfl rfl (y_add rfl rfl (addN (by omega))) ?_
  refine rw_p rfl rfl (y_move rfl) ?_
  refine rw_p rfl rfl (y_mul rfl rfl (mulN (by omega))) ?_
  refine rw_p rfl rfl (y_v (y_slice (ln := ((i + 1) * sz)) (hn := f.length) rfl sl22 ⟨_, rfl⟩ rfl (by omega) hle (fun h => hsp (by omega))) (show _ = Value.slice (slp p cap ((i + 1) * sz) 1) (f.drop ((i + 1) * sz)).length (cap - (i + 1) * sz) by rw [List.length_drop])) ?_
  refine a_append rfl rfl rfl rfl rfl rfl sl22 sl22 z5 rfl (oneB _) ((hp.ext0 hm.to).dropV hle) (lenB _) ha_s hm 0 rfl (by rw [List.length_take, List.length_drop]; omega) (by rw [List.length_take, List.length_drop]; omega) fun p_s cap_s g_s b_s w ha_s hm => ?_
  replace ha_s := ha_s.to (show _ = (Pl.putS sz f (i, bs)).flatMap encB by rw [← Pl.putS_eq sz f i bs hb, List.flatMap_append, List.flatMap_append])
  have hns := ha_s.lenB
  refine rw_p rfl rfl (y_assign rfl) ?_
  refine rw_done ?_
  refine gn_sq ?_
  refine HW_ret rfl ?_
  refine toR (fin hret rfl (.tmp rfl .nil) .one ?_)
  exact ⟨p_s, cap_s, g_s, b_s, by rw [← hns], by rw [← hns]; exact ha_s, (hm.pick [0] rfl)⟩

set_option maxHeartbeats 800000 in
theorem rf_contents (D : Pl.Dv) (m : Nat) (pb : Option Addr) (cb : Nat) (pc : Option Addr) (cc : Nat) (cs : List PdV) (B : List (Nat × Blk)) (w0 : World) (hZ : OwnZ w0 ((m, .row 50 (rfV D pb cb pc cc)) :: B)) (hb : Held B 5 ⟨pb, cb, D.dk⟩) (hp : HeldP B 172 5 pc cc cs) (hwr : cs.map PdV.wr = D.ca) (hok : Pl.okDv D) (hcl : D.ca.length ≤ 2000000000) : C Tryz.prog 65 [.pointer (some ⟨m, 0, none⟩)] w0 fun v w' => ∃ (q : Option Addr) (c : Nat) (N : List (Nat × Blk)), v = .slice q (Pl.contents D).length c ∧ Held (N ++ B) 5 ⟨q, c, Pl.contents D⟩ ∧ Mem w0 w' No N := by
  have hP : w0.heap[m]? = some (Blk.toObj (.row 50 (rfV D pb cb pc cc))) := hZ.get (k := 0) rfl
  have o1 := hok.sz
  have o2 := hok.len
  have o3 := hok.cnt
  have o4 := hok.max
  have o5 : D.cnt ≤ D.cnt * D.sz := Nat.le_mul_of_pos_right _ o1
  have o6 := hb.le
  have o8 := hp.le
  simp only at o6
  have hCl := wr_len hwr
  have hBR := hb.rdO hZ.tail
  have hCR := hp.rdO hZ (fun _ he => List.mem_cons_of_mem _ he)
  have o9 : D.sz ≤ D.cnt * D.sz := Nat.le_mul_of_pos_left _ o3
  refine C_of Tryz.func65 rfl rfl rfl fun κ hret hnorm => ?_
  have hm := Mem.start w0
  refine HW_seq rfl ?_
  refine HW_text (.pure 0 .done) (by kernel_rfl) ?_
  refine rw_p rfl rfl (y_assign rfl) ?_
  refine rw_done ?_
  refine gn_sq ?_
  refine HW_seq rfl ?_
  refine HW_text (.pure 0 (.pure 1 (.pure 2 (.pure 3 (.pure 4 .done))))) (by kernel_rfl) ?_
  refine rw_p rfl rfl (y_move rfl) ?_
  refine rw_p rfl rfl (y_nil rfl) ?_
  refine rw_p rfl rfl (y_fieldAddr rfl fo50_2) ?_
  refine rw_p rfl rfl (y_load rfl sc22 (nowT ((hm.to.same _ (Array.getElem?_eq_some_iff.1 hP).1 id).trans hP)) rfl) ?_
  refine rw_p rfl rfl (y_assign rfl) ?_
  refine rw_done ?_
  refine gn_sq ?_
  refine HW_seq rfl ?_
  refine HW_seq rfl ?_
  refine HW_text (.pure 0 .done) (by kernel_rfl) ?_
  refine rw_p rfl rfl (y_assign rfl) ?_
  refine rw_done ?_
  refine gn_sq ?_
  refine HW_block rfl ?_
  refine HW_loopK (ι := Nat × Option Addr × Nat × List (Nat × Blk)) rfl (ks := [0, 2]) (.cons rfl (.cons rfl .nil)) (fun x => [(4, .int .i64 x.1), (3, .slice x.2.1 D.dk.length x.2.2.1)]) (fun x w => Mem w0 w No x.2.2.2 ∧ Held (x.2.2.2 ++ B) 5 ⟨x.2.1, x.2.2.1, ((D.ca.take x.1).foldl (Pl.putS D.sz) D.dk)⟩ ∧ x.1 ≤ D.ca.length) (fun x => D.ca.length - x.1) (0, pb, cb, []) (⟨hm, hb, Nat.zero_le _⟩) ⟨rfl, rfl, trivial⟩ (fun x w hM => ?_)
  obtain ⟨hm, hh9, hk⟩ := hM
  refine HW_seq rfl ?_
  refine HW_seq rfl ?_
  refine HW_text (.pure 0 (.pure 1 (.pure 2 (.pure 3 (.pure 4 (.pure 5 (.pure 6 .done))))))) (by kernel_rfl) ?_
  refine rw_p rfl rfl (y_move rfl) ?_
  refine rw_p rfl rfl (y_move rfl) ?_
  refine rw_p rfl rfl (y_nil rfl) ?_
  refine rw_p rfl rfl (y_fieldAddr rfl fo50_3) ?_
  refine rw_p rfl rfl (y_load rfl sc48 (nowT ((hm.to.same _ (Array.getElem?_eq_some_iff.1 hP).1 id).trans hP)) rfl) ?_
  refine rw_p rfl rfl (y_len rfl rfl sl48) ?_
  refine rw_p rfl rfl (y_lt rfl rfl) ?_
  refine rw_done ?_
  refine gn_sq ?_
  refine HW_cond rfl rfl (fun hc0 => ?_) (fun hc0 => ?_)
  ·
    simp only [decide_eq_true_eq] at hc0
    obtain ⟨c, hi⟩ : ∃ y_, cs[x.1]? = some y_ := ⟨_, List.getElem?_eq_getElem (by omega)⟩
    have hcx := wr_get hwr hi
    have hcw := hok.ca _ (List.mem_of_getElem? hcx)
    have hci : c.i < D.cnt := hcw.1
    have hcl2 : c.d.bs.length = D.sz := hcw.2
    have hse : c.i * D.sz + D.sz ≤ D.cnt * D.sz := Pl.sec_le hci
    have hhc := hp.2 c (List.mem_of_getElem? hi)
    have hle9 := hhc.le
    obtain ⟨b2, o2_, hq⟩ := hCR.atI encP_len (by decide) hi
    have hfl : ((D.ca.take x.1).foldl (Pl.putS D.sz) D.dk).length = D.dk.length := Pl.fold_len hok.len fun d hd => hok.ca d (List.mem_of_mem_take hd)
    have hh8 := hh9.le
    simp only [hfl] at hh8
    have hpl : (Pl.putS D.sz ((D.ca.take x.1).foldl (Pl.putS D.sz) D.dk) (c.i, c.d.bs)).length = D.dk.length := (Pl.putS_len (hfl.trans hok.len) hci hcl2).trans hfl
    refine HW_skip rfl ?_
    refine gn_sq ?_
    refine HW_seq rfl ?_
    refine HW_block rfl ?_
    refine HW_draw (.pure 0 (.pure 1 (.pure 2 (.pure 3 (.pure 4 (.pure 5 (.pure 6 (.pure 7 (.pure 8 (.pure 9 (.pure 10 (.pure 11 (.cut (.act 12 (.pure 13 .done))))))))))))))) No mix (by kernel_rfl) hm fun w hw hm0 hh => ?_
    have hm := hm0
    refine rw_p rfl rfl (y_move rfl) ?_
    refine rw_p rfl rfl (y_move rfl) ?_
    refine rw_p rfl rfl (y_nil rfl) ?_
    refine rw_p rfl rfl (y_fieldAddr rfl fo50_0) ?_
    refine rw_p rfl rfl (y_load rfl sc3 (fun u hu => ((hm0.to.trans hu).same _ (Array.getElem?_eq_some_iff.1 hP).1 id).trans hP) rfl) ?_
    refine rw_p rfl rfl (y_move rfl) ?_
    refine rw_p rfl rfl (y_nil rfl) ?_
    refine rw_p rfl rfl (y_fieldAddr rfl fo50_3) ?_
    refine rw_p rfl rfl (y_load rfl sc48 (fun u hu => ((hm0.to.trans hu).same _ (Array.getElem?_eq_some_iff.1 hP).1 id).trans hP) rfl) ?_
    refine rw_p rfl rfl (y_move rfl) ?_
    refine rw_p rfl rfl (y_index rfl rfl sl48 hq (by omega) (by omega)) ?_
    refine rw_p rfl rfl (y_elA rfl ag172 (hq ▸ hCR.ext0 hm0.to).nd encP_len hi) ?_
    refine a_cut ?_
    refine a_call rfl rfl rfl go99 (C.eqv (rf_put x.2.1 x.2.2.1 ((D.ca.take x.1).foldl (Pl.putS D.sz) D.dk) D.sz c.i c.d.p c.d.cap c.d.bs _ (hh9.rd2 hZ (fun _ he => List.mem_cons_of_mem _ he) hm) ((hhc.rdO hZ.tail).ext0 hm.to) (by omega) (fun h => hh9.spot h) hcl2 (by omega) (by omega) o1) (by rw [hfl]; rfl)) fun v w hR => ?_
    obtain ⟨p_s, cap_s, g_s, b_s, rfl, ha_s, hmc⟩ := hR
    refine ⟨trivial, ?_⟩
    have hg_s : b_s.real = true → _ := fun hr => (hmc.fresh _ List.mem_cons_self hr).resolve_left id
    replace hm := hm.callN hmc
    refine rw_p rfl rfl (y_assign rfl) ?_
    refine rw_done ?_
    refine gn_bl ?_
    refine gn_sq ?_
    refine HW_text (.pure 0 (.pure 1 (.pure 2 .done))) (by kernel_rfl) ?_
    refine rw_p rfl rfl (y_move rfl) ?_
    refine rw_p rfl rfl (y_add rfl rfl (i64w (by omega) (by omega))) ?_
    refine rw_p rfl rfl (y_assign rfl) ?_
    refine rw_done ?_
    refine next (x.1 + 1, p_s, cap_s, (g_s, b_s) :: x.2.2.2) (by simp only; omega) ⟨(hm.pickT [0] 1 rfl), ⟨g_s, b_s, by simp, ?_⟩, by simp only; omega⟩ ⟨nx x.1, by rw [hpl]; rfl, rfl, rfl, trivial⟩
    simp only [Pl.fold_next hcx]
    exact ha_s
  ·
    simp only [decide_eq_false_iff_not] at hc0
    rw [List.take_of_length_le (by omega)] at hh9
    have hcl9 : (Pl.contents D).length = D.dk.length := Pl.fold_len hok.len hok.ca
    refine HW_exit rfl ?_
    refine gx_sq (gx_lp ?_)
    refine gx_here ?_
    refine gn_sq ?_
    refine HW_seq rfl ?_
    refine HW_text (.pure 0 (.pure 1 .done)) (by kernel_rfl) ?_
    refine rw_p rfl rfl (y_move rfl) ?_
    refine rw_p rfl rfl (y_assign rfl) ?_
    refine rw_done ?_
    refine gn_sq ?_
    refine HW_ret rfl ?_
    refine toR (fin hret rfl (.tmp rfl .nil) .one ?_)
    exact ⟨x.2.1, x.2.2.1, x.2.2.2, by rw [hcl9], hh9, hm⟩

set_option maxHeartbeats 800000 in
theorem rf_read (D : Pl.Dv) (m : Nat) (pb : Option Addr) (cb : Nat) (pc : Option Addr) (cc : Nat) (cs : List PdV) (B : List (Nat × Blk)) (w0 : World) (hZ : OwnZ w0 ((m, .row 50 (rfV D pb cb pc cc)) :: B)) (hb : Held B 5 ⟨pb, cb, D.dk⟩) (hp : HeldP B 172 5 pc cc cs) (hwr : cs.map PdV.wr = D.ca) (hok : Pl.okDv D) (hcl : D.ca.length ≤ 2000000000) (i : Int) : C Tryz.prog 81 [.pointer (some ⟨m, 0, none⟩), .int .i64 i] w0 fun v w' => ∃ (q : Option Addr) (c : Nat), v = .tuple ⟨[.slice q (if Pl.codeAt D i = 0 then Pl.rdS D i else []).length c, .int .i64 (Pl.codeAt D i)]⟩ ∧ Rd w' q ((if Pl.codeAt D i = 0 then Pl.rdS D i else []).flatMap encB) ∧ Ext No w0 w' := by
  have hP : w0.heap[m]? = some (Blk.toObj (.row 50 (rfV D pb cb pc cc))) := hZ.get (k := 0) rfl
  have o1 := hok.sz
  have o2 := hok.len
  have o3 := hok.cnt
  have o4 := hok.max
  have o5 : D.cnt ≤ D.cnt * D.sz := Nat.le_mul_of_pos_right _ o1
  have o6 := hb.le
  have o8 := hp.le
  simp only at o6
  have hCl := wr_len hwr
  have hBR := hb.rdO hZ.tail
  have hCR := hp.rdO hZ (fun _ he => List.mem_cons_of_mem _ he)
  have o9 : D.sz ≤ D.cnt * D.sz := Nat.le_mul_of_pos_left _ o3
  have hcd : Pl.codeAt D i = if D.dn = true then 18 else if i < 0 ∨ (D.cnt : Int) ≤ i then 2 else 0 := rfl
  have hlc : (Pl.contents D).length = D.dk.length := Pl.fold_len hok.len hok.ca
  refine C_of Tryz.func81 rfl rfl rfl fun κ hret hnorm => ?_
  have hm := Mem.start w0
  refine HW_seq rfl ?_
  refine HW_text (.pure 0 (.pure 1 .done)) (by kernel_rfl) ?_
  refine rw_p rfl rfl (y_assign rfl) ?_
  refine rw_p rfl rfl (y_assign rfl) ?_
  refine rw_done ?_
  refine gn_sq ?_
  refine HW_seq rfl ?_
  refine HW_seq rfl ?_
  refine HW_text (.pure 0 (.pure 1 (.pure 2 (.pure 3 .done)))) (by kernel_rfl) ?_
  refine rw_p rfl rfl (y_move rfl) ?_
  refine rw_p rfl rfl (y_nil rfl) ?_
  refine rw_p rfl rfl (y_fieldAddr rfl fo50_6) ?_
  refine rw_p rfl rfl (y_load rfl sc4 (nowT ((hm.to.same _ (Array.getElem?_eq_some_iff.1 hP).1 id).trans hP)) rfl) ?_
  refine rw_done ?_
  refine gn_sq ?_
  refine HW_cond rfl rfl (fun hc0 => ?_) (fun hc0 => ?_)
  ·
    have hc9 : Pl.codeAt D i = 18 := by rw [hcd, if_pos hc0]
    refine HW_seq rfl ?_
    refine HW_text (.pure 0 (.pure 1 .done)) (by kernel_rfl) ?_
    refine rw_p rfl rfl (y_assign rfl) ?_
    refine rw_p rfl rfl (y_assign rfl) ?_
    refine rw_done ?_
    refine gn_sq ?_
    refine HW_ret rfl ?_
    refine gr_sq ?_
    refine toR (fin hret rfl (.tmp rfl (.tmp rfl .nil)) .more ?_)
    exact ⟨none, 0, by rw [hc9]; rfl, by rw [hc9]; exact rfl, hm.to⟩
  ·
    refine HW_skip rfl ?_
    refine gn_sq ?_
    refine HW_seq rfl ?_
    refine HW_seq rfl ?_
    refine HW_text (.pure 0 (.pure 1 (.pure 2 (.pure 3 (.pure 4 (.pure 5 (.pure 6 (.pure 7 (.pure 8 (.pure 9 .done)))))))))) (by kernel_rfl) ?_
    refine rw_p rfl rfl (y_move rfl) ?_
    refine rw_p rfl rfl (y_lt rfl rfl) ?_
    refine rw_p rfl rfl (y_move rfl) ?_
    refine rw_g rfl rfl rfl (fun hc => (y_move rfl)) ?_
    refine rw_g rfl rfl rfl (fun hc => (y_move rfl)) ?_
    refine rw_g rfl rfl rfl (fun hc => (y_nil (gx hc rfl))) ?_
    refine rw_g rfl rfl rfl (fun hc => (y_fieldAddr (gx hc rfl) fo50_1)) ?_
    refine rw_g rfl rfl rfl (fun hc => (y_load (gx hc rfl) sc3 (nowT ((hm.to.same _ (Array.getElem?_eq_some_iff.1 hP).1 id).trans hP)) rfl)) ?_
    refine rw_g rfl rfl rfl (fun hc => (y_ge (gx hc rfl) (gx hc rfl))) ?_
    refine rw_p rfl rfl (y_or rfl rfl rfl) ?_
    refine rw_done ?_
    refine gn_sq ?_
    refine HW_cond rfl rfl (fun hc1 => ?_) (fun hc1 => ?_)
    ·
      simp only [Bool.or_eq_true, decide_eq_true_eq] at hc1
      have hc9 : Pl.codeAt D i = 2 := by rw [hcd, if_neg (by simp [hc0]), if_pos (by omega)]
      refine HW_seq rfl ?_
      refine HW_text (.pure 0 (.pure 1 .done)) (by kernel_rfl) ?_
      refine rw_p rfl rfl (y_assign rfl) ?_
      refine rw_p rfl rfl (y_assign rfl) ?_
      refine rw_done ?_
      refine gn_sq ?_
      refine HW_ret rfl ?_
      refine gr_sq ?_
      refine toR (fin hret rfl (.tmp rfl (.tmp rfl .nil)) .more ?_)
      exact ⟨none, 0, by rw [hc9]; rfl, by rw [hc9]; exact rfl, hm.to⟩
    ·
      simp only [Bool.or_eq_false_iff, decide_eq_false_iff_not] at hc1
      have hc9 : Pl.codeAt D i = 0 := by rw [hcd, if_neg (by simp [hc0]), if_neg (by omega)]
      obtain ⟨ii, rfl⟩ : ∃ ii : Nat, i = ii := ⟨i.toNat, by omega⟩
      have hse : ii * D.sz + D.sz ≤ D.cnt * D.sz := Pl.sec_le (by omega)
      have hi1 : (ii + 1) * D.sz = ii * D.sz + D.sz := by rw [Nat.add_mul, Nat.one_mul]
      have hrl : (Pl.rdS D (ii : Int)).length = D.sz := by unfold Pl.rdS; rw [List.length_take, List.length_drop, Int.toNat_natCast]; omega
      refine HW_skip rfl ?_
      refine gn_sq ?_
      refine HW_seq rfl ?_
      refine HW_draw (.pure 0 (.pure 2 (.pure 3 (.pure 4 (.pure 5 (.pure 6 (.pure 7 (.pure 8 (.pure 9 (.pure 10 (.pure 11 (.pure 12 (.pure 13 (.pure 14 (.act 1 (.pure 15 (.pure 16 (.pure 17 .done)))))))))))))))))) No mix (by kernel_rfl) hm fun w hw hm0 hh => ?_
      have hm := hm0
      refine rw_p rfl rfl (y_move rfl) ?_
      refine rw_p rfl rfl (y_move rfl) ?_
      refine rw_p rfl rfl (y_move rfl) ?_
      refine rw_p rfl rfl (y_nil rfl) ?_
      refine rw_p rfl rfl (y_fieldAddr rfl fo50_0) ?_
      refine rw_p rfl rfl (y_load rfl sc3 (fun u hu => ((hm0.to.trans hu).same _ (Array.getElem?_eq_some_iff.1 hP).1 id).trans hP) rfl) ?_
      refine rw_p rfl rfl (y_mul rfl rfl (mulN (by omega))) ?_
      refine rw_p rfl rfl (y_move rfl) ?_
      refine rw_p rfl rfl (y_add rfl rfl (addN (by omega))) ?_
      refine rw_p rfl rfl (y_move rfl) ?_
      refine rw_p rfl rfl (y_nil rfl) ?_
      refine rw_p rfl rfl (y_fieldAddr rfl fo50_0) ?_
      refine rw_p rfl rfl (y_load rfl sc3 (fun u hu => ((hm0.to.trans hu).same _ (Array.getElem?_eq_some_iff.1 hP).1 id).trans hP) rfl) ?_
      refine rw_p rfl rfl (y_mul rfl rfl (mulN (by omega))) ?_
      refine a_call rfl rfl rfl go65 (rf_contents D m pb cb pc cc cs B _ (hZ.ext hm.to) hb hp hwr hok hcl) fun v w hR => ?_
      obtain ⟨p_t, cap_t, Nt, rfl, hh_t, hmc⟩ := hR
      refine ⟨hh.ext hmc.to, ?_⟩
      replace hm := Mem.callT0 hm hmc
      have hl_t := hh_t.le
      simp only at hl_t
      refine rw_p rfl rfl (y_v (y_slice (ln := (ii * D.sz)) (hn := ((ii + 1) * D.sz)) rfl sl22 ⟨_, rfl⟩ ⟨_, rfl⟩ (by omega) (by omega) (fun h => hh_t.spot (by show cap_t ≠ 0; omega))) (show _ = Value.slice (slp p_t cap_t (ii * D.sz) 1) (Pl.rdS D (ii : Int)).length (cap_t - ii * D.sz) by rw [hrl, hi1, Nat.add_sub_cancel_left])) ?_
      refine rw_p rfl rfl (y_assign rfl) ?_
      refine rw_p rfl rfl (y_assign rfl) ?_
      refine rw_done ?_
      refine gn_sq ?_
      refine HW_ret rfl ?_
      refine toR (fin hret rfl (.tmp rfl (.tmp rfl .nil)) .more ?_)
      exact ⟨_, _, by rw [hc9]; rfl, by rw [hc9]; exact ((hh_t.rd2 hZ (fun _ he => List.mem_cons_of_mem _ he) hm).sub hl_t), hm.to⟩

set_option maxHeartbeats 800000 in
theorem rf_flush (D : Pl.Dv) (m : Nat) (pb : Option Addr) (cb : Nat) (pc : Option Addr) (cc : Nat) (cs : List PdV) (B : List (Nat × Blk)) (w0 : World) (hZ : OwnZ w0 ((m, .row 50 (rfV D pb cb pc cc)) :: B)) (hb : Held B 5 ⟨pb, cb, D.dk⟩) (hp : HeldP B 172 5 pc cc cs) (hwr : cs.map PdV.wr = D.ca) (hok : Pl.okDv D) (hcl : D.ca.length ≤ 2000000000) : C Tryz.prog 42 [.pointer (some ⟨m, 0, none⟩)] w0 fun v w' => v = .int .i64 (Pl.fCode D) ∧ ∃ Z', RefZ 50 172 5 (Pl.fDv D) m Z' ∧ Mem w0 w' (Mn (reals ((m, .row 50 (rfV D pb cb pc cc)) :: B))) Z' := by
  have hP : w0.heap[m]? = some (Blk.toObj (.row 50 (rfV D pb cb pc cc))) := hZ.get (k := 0) rfl
  have o1 := hok.sz
  have o2 := hok.len
  have o3 := hok.cnt
  have o4 := hok.max
  have o5 : D.cnt ≤ D.cnt * D.sz := Nat.le_mul_of_pos_right _ o1
  have o6 := hb.le
  have o8 := hp.le
  simp only at o6
  have hCl := wr_len hwr
  have hBR := hb.rdO hZ.tail
  have hCR := hp.rdO hZ (fun _ he => List.mem_cons_of_mem _ he)
  have o9 : D.sz ≤ D.cnt * D.sz := Nat.le_mul_of_pos_left _ o3
  have hfc : Pl.fCode D = if D.dn = true then 18 else 0 := rfl
  have hfd : Pl.fDv D = if D.dn = true then D else { Pl.persist D (fun _ => true) with sF := Pl.inc D.sF } := rfl
  have hdk : Pl.pers D.sz (fun _ => true) 0 D.dk D.ca = Pl.contents D := Pl.pers_all _ _ _ _
  refine C_of Tryz.func42 rfl rfl rfl fun κ hret hnorm => ?_
  have hm := hZ.start
  refine HW_seq rfl ?_
  refine HW_text (.pure 0 .done) (by kernel_rfl) ?_
  refine rw_p rfl rfl (y_assign rfl) ?_
  refine rw_done ?_
  refine gn_sq ?_
  refine HW_seq rfl ?_
  refine HW_seq rfl ?_
  refine HW_text (.pure 0 (.pure 1 (.pure 2 (.pure 3 .done)))) (by kernel_rfl) ?_
  refine rw_p rfl rfl (y_move rfl) ?_
  refine rw_p rfl rfl (y_nil rfl) ?_
  refine rw_p rfl rfl (y_fieldAddr rfl fo50_6) ?_
  refine rw_p rfl rfl (y_load rfl sc4 (hm.nt 0 rfl) rfl) ?_
  refine rw_done ?_
  refine gn_sq ?_
  refine HW_cond rfl rfl (fun hc0 => ?_) (fun hc0 => ?_)
  ·
    refine HW_seq rfl ?_
    refine HW_text (.pure 0 .done) (by kernel_rfl) ?_
    refine rw_p rfl rfl (y_assign rfl) ?_
    refine rw_done ?_
    refine gn_sq ?_
    refine HW_ret rfl ?_
    refine gr_sq ?_
    refine toR (fin hret rfl (.tmp rfl .nil) .one ?_)
    exact ⟨by rw [hfc, if_pos hc0], _, by rw [hfd, if_pos hc0]; exact ref_mk hb hp hwr hok, (hm.pickT [0] 1 rfl)⟩
  ·
    refine HW_skip rfl ?_
    refine gn_sq ?_
    refine HW_seq rfl ?_
    refine HW_text (.pure 0 (.pure 1 (.act 2 (.pure 3 (.pure 4 (.act 5 .done)))))) (by kernel_rfl) ?_
    refine rw_p rfl rfl (y_move rfl) ?_
    refine rw_p rfl rfl (y_move rfl) ?_
    refine a_call rfl rfl rfl go65 (rf_contents D m pb cb pc cc cs B _ hm.ownZ hb hp hwr hok hcl) fun v w hR => ?_
    obtain ⟨p_t, cap_t, Nt, rfl, hh_t, hmc⟩ := hR
    refine ⟨trivial, ?_⟩
    replace hm := hm.callN1 hmc
    refine rw_p rfl rfl (y_nil rfl) ?_
    refine rw_p rfl rfl (y_fieldAddr rfl fo50_2) ?_
    refine a_store rfl rfl rfl rfl sz22 rfl hm 0 rfl rfl fun w hm => ?_
    refine rw_done ?_
    refine gn_sq ?_
    refine HW_seq rfl ?_
    refine HW_text (.pure 0 (.pure 1 (.pure 2 (.act 3 .done)))) (by kernel_rfl) ?_
    refine rw_p rfl rfl (y_move rfl) ?_
    refine rw_p rfl rfl (y_nil rfl) ?_
    refine rw_p rfl rfl (y_fieldAddr rfl fo50_3) ?_
    refine a_store rfl rfl rfl rfl sz48 rfl hm 0 rfl rfl fun w hm => ?_
    refine rw_done ?_
    refine gn_sq ?_
    refine HW_seq rfl ?_
    refine HW_text (.pure 0 (.pure 1 (.pure 2 (.pure 3 (.pure 4 (.pure 5 (.pure 6 (.act 7 .done)))))))) (by kernel_rfl) ?_
    refine rw_p rfl rfl (y_move rfl) ?_
    refine rw_p rfl rfl (y_nil rfl) ?_
    refine rw_p rfl rfl (y_fieldAddr rfl fo50_8) ?_
    refine rw_p rfl rfl (y_load rfl sc3 (hm.nt 0 rfl) rfl) ?_
    refine rw_p rfl rfl (y_add rfl rfl rfl) ?_
    refine rw_p rfl rfl (y_nil rfl) ?_
    refine rw_p rfl rfl (y_fieldAddr rfl fo50_8) ?_
    refine a_store rfl rfl rfl rfl sz3 rfl hm 0 rfl rfl fun w hm => ?_
    refine rw_done ?_
    refine gn_sq ?_
    refine HW_seq rfl ?_
    refine HW_text (.pure 0 .done) (by kernel_rfl) ?_
    refine rw_p rfl rfl (y_assign rfl) ?_
    refine rw_done ?_
    refine gn_sq ?_
    refine HW_ret rfl ?_
    refine toR (fin hret rfl (.tmp rfl .nil) .one ?_)
    have hrow : rfV { Pl.persist D (fun _ => true) with sF := Pl.inc D.sF } p_t cap_t none 0 = [.int .i64 (D.sz : Int), .int .i64 (D.cnt : Int), .slice p_t (Pl.contents D).length cap_t, .slice none 0 0, .int .i64 D.wr, .int .u64 D.kp, .bool D.dn, .int .i64 D.sW, .int .i64 (Pl.inc D.sF), .int .i64 D.sC, .int .i64 D.sH, .int .i64 D.sM] := by unfold rfV Pl.persist; simp only [hdk]; rfl
    exact ⟨by rw [hfc, if_neg (by simp [hc0])], _, by rw [hfd, if_neg (by simp [hc0])]; exact ref_mk (D := { Pl.persist D (fun _ => true) with sF := Pl.inc D.sF }) (pb := p_t) (cb := cap_t) (pc := none) (cc := 0) (cs := []) (B := (0, .gap) :: (Nt ++ B)) (by show Held _ _ ⟨p_t, cap_t, Pl.pers D.sz (fun _ => true) 0 D.dk D.ca⟩; rw [hdk]; exact hh_t.mono (fun _ he => List.mem_cons_of_mem _ he)) (heldP_nil _ _ List.mem_cons_self) rfl (by have := Pl.ok_flush hok; rw [hfd, if_neg (by simp [hc0])] at this; exact this), by rw [hrow]; exact (hm.gapIn.pickT [1, 0] 2 rfl)⟩

set_option maxHeartbeats 1600000 in
theorem rf_crash (D : Pl.Dv) (m : Nat) (pb : Option Addr) (cb : Nat) (pc : Option Addr) (cc : Nat) (cs : List PdV) (B : List (Nat × Blk)) (w0 : World) (hZ : OwnZ w0 ((m, .row 50 (rfV D pb cb pc cc)) :: B)) (hb : Held B 5 ⟨pb, cb, D.dk⟩) (hp : HeldP B 172 5 pc cc cs) (hwr : cs.map PdV.wr = D.ca) (hok : Pl.okDv D) (hcl : D.ca.length ≤ 2000000000) : C Tryz.prog 103 [.pointer (some ⟨m, 0, none⟩)] w0 fun v w' => v = .tuple ⟨[]⟩ ∧ ∃ Z', RefZ 50 172 5 { Pl.persist D (Pl.keepB D.kp) with wr := -1, dn := true, sC := Pl.inc D.sC } m Z' ∧ Mem w0 w' (Mn (reals ((m, .row 50 (rfV D pb cb pc cc)) :: B))) Z' := by
  have hP : w0.heap[m]? = some (Blk.toObj (.row 50 (rfV D pb cb pc cc))) := hZ.get (k := 0) rfl
  have o1 := hok.sz
  have o2 := hok.len
  have o3 := hok.cnt
  have o4 := hok.max
  have o5 : D.cnt ≤ D.cnt * D.sz := Nat.le_mul_of_pos_right _ o1
  have o6 := hb.le
  have o8 := hp.le
  simp only at o6
  have hCl := wr_len hwr
  have hBR := hb.rdO hZ.tail
  have hCR := hp.rdO hZ (fun _ he => List.mem_cons_of_mem _ he)
  have o9 : D.sz ≤ D.cnt * D.sz := Nat.le_mul_of_pos_left _ o3
  refine C_of Tryz.func103 rfl rfl rfl fun κ hret hnorm => ?_
  have hm := hZ.start
  refine HW_seq rfl ?_
  refine HW_seq rfl ?_
  refine HW_text (.pure 0 .done) (by kernel_rfl) ?_
  refine rw_p rfl rfl (y_assign rfl) ?_
  refine rw_done ?_
  refine gn_sq ?_
  refine HW_block rfl ?_
  refine HW_loopK (ι := Nat × Option Addr × Nat × List (Nat × Blk)) rfl (ks := [0]) (.cons rfl .nil) (fun x => [(2, .int .i64 x.1)]) (fun x w => Mem w0 w (Mn (reals ((m, .row 50 (rfV D pb cb pc cc)) :: B))) ((m, .row 50 (rfV { D with dk := (Pl.pers D.sz (Pl.keepB D.kp) 0 D.dk (D.ca.take x.1)) } x.2.1 x.2.2.1 pc cc)) :: x.2.2.2) ∧ Held x.2.2.2 5 ⟨x.2.1, x.2.2.1, (Pl.pers D.sz (Pl.keepB D.kp) 0 D.dk (D.ca.take x.1))⟩ ∧ HeldP x.2.2.2 172 5 pc cc cs ∧ x.1 ≤ D.ca.length) (fun x => D.ca.length - x.1) (0, pb, cb, B) (⟨hm, hb, hp, Nat.zero_le _⟩) ⟨rfl, trivial⟩ (fun x w hM => ?_)
  obtain ⟨hm, hb9, hp9, hk⟩ := hM
  refine HW_seq rfl ?_
  refine HW_seq rfl ?_
  refine HW_text (.pure 0 (.pure 1 (.pure 2 (.pure 3 (.pure 4 (.pure 5 (.pure 6 .done))))))) (by kernel_rfl) ?_
  refine rw_p rfl rfl (y_move rfl) ?_
  refine rw_p rfl rfl (y_move rfl) ?_
  refine rw_p rfl rfl (y_nil rfl) ?_
  refine rw_p rfl rfl (y_fieldAddr rfl fo50_3) ?_
  refine rw_p rfl rfl (y_load rfl sc48 (hm.nt 0 rfl) rfl) ?_
  refine rw_p rfl rfl (y_len rfl rfl sl48) ?_
  refine rw_p rfl rfl (y_lt rfl rfl) ?_
  refine rw_done ?_
  refine gn_sq ?_
  refine HW_cond rfl rfl (fun hc0 => ?_) (fun hc0 => ?_)
  ·
    simp only [decide_eq_true_eq] at hc0
    obtain ⟨c, hi⟩ : ∃ y_, cs[x.1]? = some y_ := ⟨_, List.getElem?_eq_getElem (by omega)⟩
    have hcx := wr_get hwr hi
    have hcw := hok.ca _ (List.mem_of_getElem? hcx)
    have hci : c.i < D.cnt := hcw.1
    have hcl2 : c.d.bs.length = D.sz := hcw.2
    have hse : c.i * D.sz + D.sz ≤ D.cnt * D.sz := Pl.sec_le hci
    have hhc := hp.2 c (List.mem_of_getElem? hi)
    have hle9 := hhc.le
    obtain ⟨b2, o2_, hq⟩ := (hp9.rd hm (fun _ he => List.mem_cons_of_mem _ he)).atI encP_len (by decide) hi
    have hfl : (Pl.pers D.sz (Pl.keepB D.kp) 0 D.dk (D.ca.take x.1)).length = D.dk.length := Pl.pers_len hok.len fun d hd => hok.ca d (List.mem_of_mem_take hd)
    have hh8 := hb9.le
    simp only [hfl] at hh8
    have hhc9 := hp9.2 c (List.mem_of_getElem? hi)
    have hpl : (Pl.putS D.sz (Pl.pers D.sz (Pl.keepB D.kp) 0 D.dk (D.ca.take x.1)) (c.i, c.d.bs)).length = D.dk.length := (Pl.putS_len (hfl.trans hok.len) hci hcl2).trans hfl
    refine HW_skip rfl ?_
    refine gn_sq ?_
    refine HW_seq rfl ?_
    refine HW_block rfl ?_
    refine HW_seq rfl ?_
    refine HW_text (.pure 0 (.pure 1 (.pure 2 (.pure 3 (.pure 4 (.pure 5 (.pure 6 (.pure 7 (.pure 8 .done))))))))) (by kernel_rfl) ?_
    refine rw_p rfl rfl (y_move rfl) ?_
    refine rw_p rfl rfl (y_nil rfl) ?_
    refine rw_p rfl rfl (y_fieldAddr rfl fo50_5) ?_
    refine rw_p rfl rfl (y_load rfl sc23 (hm.nt 0 rfl) rfl) ?_
    refine rw_p rfl rfl (y_move rfl) ?_
    refine rw_p rfl rfl (y_rem rfl rfl (by omega) rfl) ?_
    refine rw_p rfl rfl (y_shr rfl rfl (Int.tmod_nonneg _ (Int.natCast_nonneg _)) rfl) ?_
    refine rw_p rfl rfl (y_and_ rfl rfl rfl) ?_
    refine rw_p rfl rfl (y_eq rfl rfl) ?_
    refine rw_done ?_
    refine gn_sq ?_
    refine HW_cond rfl rfl (fun hc1 => ?_) (fun hc1 => ?_)
    ·
      have hk1 : Pl.keepB D.kp x.1 = true := hc1
      refine HW_draw (.pure 0 (.pure 1 (.pure 2 (.pure 3 (.pure 4 (.pure 5 (.pure 6 (.pure 7 (.pure 8 (.pure 9 (.pure 10 (.pure 11 (.pure 12 (.pure 13 (.pure 14 (.pure 15 (.cut (.act 16 (.pure 17 (.pure 18 (.act 19 .done))))))))))))))))))))) No mix (by kernel_rfl) hm fun w hw hm0 hh => ?_
      have hm := hm0
      refine rw_p rfl rfl (y_move rfl) ?_
      refine rw_p rfl rfl (y_move rfl) ?_
      refine rw_p rfl rfl (y_nil rfl) ?_
      refine rw_p rfl rfl (y_fieldAddr rfl fo50_2) ?_
      refine rw_p rfl rfl (y_load rfl sc22 (hm0.nd 0 rfl id) rfl) ?_
      refine rw_p rfl rfl (y_move rfl) ?_
      refine rw_p rfl rfl (y_nil rfl) ?_
      refine rw_p rfl rfl (y_fieldAddr rfl fo50_0) ?_
      refine rw_p rfl rfl (y_load rfl sc3 (hm0.nd 0 rfl id) rfl) ?_
      refine rw_p rfl rfl (y_move rfl) ?_
      refine rw_p rfl rfl (y_nil rfl) ?_
      refine rw_p rfl rfl (y_fieldAddr rfl fo50_3) ?_
      refine rw_p rfl rfl (y_load rfl sc48 (hm0.nd 0 rfl id) rfl) ?_
      refine rw_p rfl rfl (y_move rfl) ?_
      refine rw_p rfl rfl (y_index rfl rfl sl48 hq (by omega) (by omega)) ?_
      refine rw_p rfl rfl (y_elA rfl ag172 (hq ▸ hp9.rd hm0 (fun _ he => List.mem_cons_of_mem _ he)).nd encP_len hi) ?_
      refine a_cut ?_
      refine a_call rfl rfl rfl go99 (rf_put x.2.1 x.2.2.1 (Pl.pers D.sz (Pl.keepB D.kp) 0 D.dk (D.ca.take x.1)) D.sz c.i c.d.p c.d.cap c.d.bs _ (hb9.rd hm (fun _ he => List.mem_cons_of_mem _ he)) (hhc9.rd hm (fun _ he => List.mem_cons_of_mem _ he)) (by omega) (fun h => hb9.spot h) hcl2 (by omega) (by omega) o1) fun v w hR => ?_
      obtain ⟨p_s, cap_s, g_s, b_s, rfl, ha_s, hmc⟩ := hR
      refine ⟨trivial, ?_⟩
      have hg_s : b_s.real = true → _ := fun hr => (hmc.fresh _ List.mem_cons_self hr).resolve_left id
      replace hm := hm.callN hmc
      refine rw_p rfl rfl (y_nil rfl) ?_
      refine rw_p rfl rfl (y_fieldAddr rfl fo50_2) ?_
      refine a_store rfl rfl rfl rfl sz22 rfl hm 1 rfl rfl fun w hm => ?_
      replace hm := (hm.pickT [1, 0] 2 rfl)
      have hrw9 : rfV { D with dk := Pl.putS D.sz (Pl.pers D.sz (Pl.keepB D.kp) 0 D.dk (D.ca.take x.1)) (c.i, c.d.bs) } p_s cap_s pc cc = [.int .i64 (D.sz : Int), .int .i64 (D.cnt : Int), .slice p_s (Pl.putS D.sz (Pl.pers D.sz (Pl.keepB D.kp) 0 D.dk (D.ca.take x.1)) (c.i, c.d.bs)).length cap_s, .slice pc D.ca.length cc, .int .i64 D.wr, .int .u64 D.kp, .bool D.dn, .int .i64 D.sW, .int .i64 D.sF, .int .i64 D.sC, .int .i64 D.sH, .int .i64 D.sM] := rfl
      refine rw_done ?_
      refine gn_bl ?_
      refine gn_sq ?_
      refine HW_text (.pure 0 (.pure 1 (.pure 2 .done))) (by kernel_rfl) ?_
      refine rw_p rfl rfl (y_move rfl) ?_
      refine rw_p rfl rfl (y_add rfl rfl (i64w (by omega) (by omega))) ?_
      refine rw_p rfl rfl (y_assign rfl) ?_
      refine rw_done ?_
      first | (refine next (x.1 + 1, p_s, cap_s, (g_s, b_s) :: x.2.2.2) (by simp only; omega) ⟨by simp only [Pl.pers_next hcx, hk1, cond_true]; rw [hrw9]; exact hm, ⟨g_s, b_s, by simp, by simp only [Pl.pers_next hcx, hk1, cond_true]; exact ha_s⟩, hp9.mono (fun _ he => List.mem_cons_of_mem _ he), by simp only; omega⟩ ⟨nx x.1, rfl, trivial⟩) | (refine next (x.1 + 1, x.2.1, x.2.2.1, x.2.2.2) (by simp only; omega) ⟨by simp only [Pl.pers_next hcx, hk1, cond_false]; exact hm, by simp only [Pl.pers_next hcx, hk1, cond_false]; exact hb9, hp9, by simp only; omega⟩ ⟨nx x.1, rfl, trivial⟩)
    ·
      have hk1 : Pl.keepB D.kp x.1 = false := hc1
      refine HW_skip rfl ?_
      refine gn_bl ?_
      refine gn_sq ?_
      refine HW_text (.pure 0 (.pure 1 (.pure 2 .done))) (by kernel_rfl) ?_
      refine rw_p rfl rfl (y_move rfl) ?_
      refine rw_p rfl rfl (y_add rfl rfl (i64w (by omega) (by omega))) ?_
      refine rw_p rfl rfl (y_assign rfl) ?_
      refine rw_done ?_
      first | (refine next (x.1 + 1, p_s, cap_s, (g_s, b_s) :: x.2.2.2) (by simp only; omega) ⟨by simp only [Pl.pers_next hcx, hk1, cond_true]; rw [hrw9]; exact hm, ⟨g_s, b_s, by simp, by simp only [Pl.pers_next hcx, hk1, cond_true]; exact ha_s⟩, hp9.mono (fun _ he => List.mem_cons_of_mem _ he), by simp only; omega⟩ ⟨nx x.1, rfl, trivial⟩) | (refine next (x.1 + 1, x.2.1, x.2.2.1, x.2.2.2) (by simp only; omega) ⟨by simp only [Pl.pers_next hcx, hk1, cond_false]; exact hm, by simp only [Pl.pers_next hcx, hk1, cond_false]; exact hb9, hp9, by simp only; omega⟩ ⟨nx x.1, rfl, trivial⟩)
  ·
    simp only [decide_eq_false_iff_not] at hc0
    rw [List.take_of_length_le (by omega)] at hb9 hm
    have hrow : rfV { Pl.persist D (Pl.keepB D.kp) with wr := -1, dn := true, sC := Pl.inc D.sC } x.2.1 x.2.2.1 none 0 = [.int .i64 (D.sz : Int), .int .i64 (D.cnt : Int), .slice x.2.1 (Pl.pers D.sz (Pl.keepB D.kp) 0 D.dk D.ca).length x.2.2.1, .slice none 0 0, .int .i64 (-1), .int .u64 D.kp, .bool true, .int .i64 D.sW, .int .i64 D.sF, .int .i64 (Pl.inc D.sC), .int .i64 D.sH, .int .i64 D.sM] := rfl
    refine HW_exit rfl ?_
    refine gx_sq (gx_lp ?_)
    refine gx_here ?_
    refine gn_sq ?_
    refine HW_seq rfl ?_
    refine HW_text (.pure 0 (.pure 1 (.pure 2 (.act 3 .done)))) (by kernel_rfl) ?_
    refine rw_p rfl rfl (y_move rfl) ?_
    refine rw_p rfl rfl (y_nil rfl) ?_
    refine rw_p rfl rfl (y_fieldAddr rfl fo50_3) ?_
    refine a_store rfl rfl rfl rfl sz48 rfl hm 0 rfl rfl fun w hm => ?_
    refine rw_done ?_
    refine gn_sq ?_
    refine HW_seq rfl ?_
    refine HW_text (.pure 0 (.pure 1 (.pure 2 (.act 3 .done)))) (by kernel_rfl) ?_
    refine rw_p rfl rfl (y_move rfl) ?_
    refine rw_p rfl rfl (y_nil rfl) ?_
    refine rw_p rfl rfl (y_fieldAddr rfl fo50_4) ?_
    refine a_store rfl rfl rfl rfl sz3 rfl hm 0 rfl rfl fun w hm => ?_
    refine rw_done ?_
    refine gn_sq ?_
    refine HW_seq rfl ?_
    refine HW_text (.pure 0 (.pure 1 (.pure 2 (.act 3 .done)))) (by kernel_rfl) ?_
    refine rw_p rfl rfl (y_move rfl) ?_
    refine rw_p rfl rfl (y_nil rfl) ?_
    refine rw_p rfl rfl (y_fieldAddr rfl fo50_6) ?_
    refine a_store rfl rfl rfl rfl sz4 rfl hm 0 rfl rfl fun w hm => ?_
    refine rw_done ?_
    refine gn_sq ?_
    refine HW_text (.pure 0 (.pure 1 (.pure 2 (.pure 3 (.pure 4 (.pure 5 (.pure 6 (.act 7 .done)))))))) (by kernel_rfl) ?_
    refine rw_p rfl rfl (y_move rfl) ?_
    refine rw_p rfl rfl (y_nil rfl) ?_
    refine rw_p rfl rfl (y_fieldAddr rfl fo50_9) ?_
    refine rw_p rfl rfl (y_load rfl sc3 (hm.nt 0 rfl) rfl) ?_
    refine rw_p rfl rfl (y_add rfl rfl rfl) ?_
    refine rw_p rfl rfl (y_nil rfl) ?_
    refine rw_p rfl rfl (y_fieldAddr rfl fo50_9) ?_
    refine a_store rfl rfl rfl rfl sz3 rfl hm 0 rfl rfl fun w hm => ?_
    refine rw_done ?_
    refine toN (fin hnorm rfl .nil .nil ?_)
    exact ⟨rfl, _, ref_mk (D := { Pl.persist D (Pl.keepB D.kp) with wr := -1, dn := true, sC := Pl.inc D.sC }) (pb := x.2.1) (cb := x.2.2.1) (pc := none) (cc := 0) (cs := []) (B := (0, .gap) :: x.2.2.2) (hb9.mono (fun _ he => List.mem_cons_of_mem _ he)) (heldP_nil _ _ List.mem_cons_self) rfl (let h := Pl.ok_persist hok (Pl.keepB D.kp); ⟨h.sz, h.len, h.cnt, h.max, h.ca, by simp, h.kp, h.st⟩), by rw [hrow]; exact (hm.gapIn.pickT [1, 0] 2 rfl)⟩

set_option maxHeartbeats 1600000 in
theorem rf_putd (D : Pl.Dv) (m : Nat) (pb : Option Addr) (cb : Nat) (pc : Option Addr) (cc : Nat) (cs : List PdV) (B : List (Nat × Blk)) (w0 : World) (hZ : OwnZ w0 ((m, .row 50 (rfV D pb cb pc cc)) :: B)) (hb : Held B 5 ⟨pb, cb, D.dk⟩) (hp : HeldP B 172 5 pc cc cs) (hwr : cs.map PdV.wr = D.ca) (hok : Pl.okDv D) (q : Option Addr) (cq : Nat) (bs : List UInt8) (i : Int) (hq : Rd w0 q (bs.flatMap encB)) (hqX : bs.flatMap encB ≠ [] → ∀ a, q = some a → ¬ (Mn (reals ((m, .row 50 (rfV D pb cb pc cc)) :: B))) a.block) (hle : bs.length ≤ cq) (hcl : D.ca.length ≤ 1000000000) : C Tryz.prog 83 [.pointer (some ⟨m, 0, none⟩), .int .i64 i, .slice q bs.length cq] w0 fun v w' => v = .int .i64 (Pl.wCode D i bs) ∧ ∃ Z', RefZ 50 172 5 (Pl.wDv D i bs) m Z' ∧ Mem w0 w' (Mn (reals ((m, .row 50 (rfV D pb cb pc cc)) :: B))) Z' := by
  have hP : w0.heap[m]? = some (Blk.toObj (.row 50 (rfV D pb cb pc cc))) := hZ.get (k := 0) rfl
  have o1 := hok.sz
  have o2 := hok.len
  have o3 := hok.cnt
  have o4 := hok.max
  have o5 : D.cnt ≤ D.cnt * D.sz := Nat.le_mul_of_pos_right _ o1
  have o6 := hb.le
  have o8 := hp.le
  simp only at o6
  have hCl := wr_len hwr
  have hBR := hb.rdO hZ.tail
  have hCR := hp.rdO hZ (fun _ he => List.mem_cons_of_mem _ he)
  have o9 : D.sz ≤ D.cnt * D.sz := Nat.le_mul_of_pos_left _ o3
  have ow1 := hok.wr
  have hwc : Pl.wCode D i bs = if Pl.codeAt D i ≠ 0 then Pl.codeAt D i else if bs.length ≠ D.sz then 2 else if D.wr = 0 then 18 else 0 := rfl
  have hcd : Pl.codeAt D i = if D.dn = true then 18 else if i < 0 ∨ (D.cnt : Int) ≤ i then 2 else 0 := rfl
  refine C_of Tryz.func83 rfl rfl rfl fun κ hret hnorm => ?_
  have hm := hZ.start
  refine HW_seq rfl ?_
  refine HW_text (.pure 0 .done) (by kernel_rfl) ?_
  refine rw_p rfl rfl (y_assign rfl) ?_
  refine rw_done ?_
  refine gn_sq ?_
  refine HW_seq rfl ?_
  refine HW_seq rfl ?_
  refine HW_text (.pure 0 (.pure 1 (.pure 2 (.pure 3 .done)))) (by kernel_rfl) ?_
  refine rw_p rfl rfl (y_move rfl) ?_
  refine rw_p rfl rfl (y_nil rfl) ?_
  refine rw_p rfl rfl (y_fieldAddr rfl fo50_6) ?_
  refine rw_p rfl rfl (y_load rfl sc4 (hm.nt 0 rfl) rfl) ?_
  refine rw_done ?_
  refine gn_sq ?_
  refine HW_cond rfl rfl (fun hc0 => ?_) (fun hc0 => ?_)
  ·
    have hc9 : Pl.codeAt D i = 18 := by rw [hcd, if_pos hc0]
    refine HW_seq rfl ?_
    refine HW_text (.pure 0 .done) (by kernel_rfl) ?_
    refine rw_p rfl rfl (y_assign rfl) ?_
    refine rw_done ?_
    refine gn_sq ?_
    refine HW_ret rfl ?_
    refine gr_sq ?_
    refine toR (fin hret rfl (.tmp rfl .nil) .one ?_)
    exact ⟨by rw [hwc, hc9]; rfl, _, by rw [Pl.wDv_stop (.inl (by rw [hc9]; decide))]; exact ref_mk hb hp hwr hok, (hm.pickT [0] 1 rfl)⟩
  ·
    refine HW_skip rfl ?_
    refine gn_sq ?_
    refine HW_seq rfl ?_
    refine HW_seq rfl ?_
    refine HW_text (.pure 0 (.pure 1 (.pure 2 (.pure 3 (.pure 4 (.pure 5 (.pure 6 (.pure 7 (.pure 8 (.pure 9 (.pure 10 (.pure 11 (.pure 12 (.pure 13 (.pure 14 (.pure 15 (.pure 16 (.pure 17 (.pure 18 .done))))))))))))))))))) (by kernel_rfl) ?_
    refine rw_p rfl rfl (y_move rfl) ?_
    refine rw_p rfl rfl (y_lt rfl rfl) ?_
    refine rw_p rfl rfl (y_move rfl) ?_
    refine rw_g rfl rfl rfl (fun hc => (y_move rfl)) ?_
    refine rw_g rfl rfl rfl (fun hc => (y_move rfl)) ?_
    refine rw_g rfl rfl rfl (fun hc => (y_nil (gx hc rfl))) ?_
    refine rw_g rfl rfl rfl (fun hc => (y_fieldAddr (gx hc rfl) fo50_1)) ?_
    refine rw_g rfl rfl rfl (fun hc => (y_load (gx hc rfl) sc3 (hm.nt 0 rfl) rfl)) ?_
    refine rw_g rfl rfl rfl (fun hc => (y_ge (gx hc rfl) (gx hc rfl))) ?_
    refine rw_p rfl rfl (y_or rfl rfl rfl) ?_
    refine rw_p rfl rfl (y_move rfl) ?_
    refine rw_g rfl rfl rfl (fun hc => (y_move rfl)) ?_
    refine rw_g rfl rfl rfl (fun hc => (y_len (gx hc rfl) rfl sl22)) ?_
    refine rw_g rfl rfl rfl (fun hc => (y_move rfl)) ?_
    refine rw_g rfl rfl rfl (fun hc => (y_nil (gx hc rfl))) ?_
    refine rw_g rfl rfl rfl (fun hc => (y_fieldAddr (gx hc rfl) fo50_0)) ?_
    refine rw_g rfl rfl rfl (fun hc => (y_load (gx hc rfl) sc3 (hm.nt 0 rfl) rfl)) ?_
    refine rw_g rfl rfl rfl (fun hc => (y_ne (gx hc rfl) (gx hc rfl))) ?_
    refine rw_p rfl rfl (y_or rfl rfl rfl) ?_
    refine rw_done ?_
    refine gn_sq ?_
    refine HW_cond rfl rfl (fun hc1 => ?_) (fun hc1 => ?_)
    ·
      simp only [Bool.or_eq_true, decide_eq_true_eq] at hc1
      have hst9 : Pl.codeAt D i ≠ 0 ∨ bs.length ≠ D.sz := by (rw [hcd, if_neg (by simp [hc0])]; by_cases h9 : i < 0 ∨ (D.cnt : Int) ≤ i; · rw [if_pos h9]; exact .inl (by decide)); exact .inr (by omega)
      have hcw9 : Pl.wCode D i bs = 2 := by (rw [hwc, hcd, if_neg (show ¬ D.dn = true by simp [hc0])]; by_cases h9 : i < 0 ∨ (D.cnt : Int) ≤ i; · rw [if_pos h9, if_pos (by decide)]); rw [if_neg h9, if_neg (by simp), if_pos (by omega)]
      refine HW_seq rfl ?_
      refine HW_text (.pure 0 .done) (by kernel_rfl) ?_
      refine rw_p rfl rfl (y_assign rfl) ?_
      refine rw_done ?_
      refine gn_sq ?_
      refine HW_ret rfl ?_
      refine gr_sq ?_
      refine toR (fin hret rfl (.tmp rfl .nil) .one ?_)
      exact ⟨by rw [hcw9], _, by rw [Pl.wDv_stop hst9]; exact ref_mk hb hp hwr hok, (hm.pickT [0] 1 rfl)⟩
    ·
      simp only [Bool.or_eq_false_iff, decide_eq_false_iff_not, Decidable.not_not] at hc1
      obtain ⟨⟨hi0, hi1⟩, hbl⟩ := hc1
      have hbl : bs.length = D.sz := by omega
      have hc9 : Pl.codeAt D i = 0 := by rw [hcd, if_neg (by simp [hc0]), if_neg (by omega)]
      have hin : ((i.toNat : Nat) : Int) = i := by omega
      refine HW_skip rfl ?_
      refine gn_sq ?_
      refine HW_seq rfl ?_
      refine HW_text (.pure 0 (.act 1 (.pure 2 (.pure 3 (.pure 4 (.pure 5 (.act 6 (.pure 7 (.act 8 (.pure 9 (.act 10 (.pure 11 (.act 12 (.act 13 (.pure 14 (.pure 15 (.act 16 .done))))))))))))))))) (by kernel_rfl) ?_
      refine rw_p rfl rfl (y_move rfl) ?_
      refine a_buildSlice (l := []) rfl rfl sl48 z172 rfl rfl rfl rfl rfl rfl rfl hm trivial fun m1 w hg_m1 hm hh => ?_
      refine rw_p rfl rfl (y_move rfl) ?_
      refine rw_p rfl rfl (y_nil rfl) ?_
      refine rw_p rfl rfl (y_fieldAddr rfl fo50_3) ?_
      refine rw_p rfl rfl (y_load rfl sc48 (hm.nt 1 rfl) rfl) ?_
      refine a_append rfl rfl rfl rfl rfl rfl sl48 sl48 z172 rfl (oneP cs) (hp.rd hm (fun _ he => List.mem_cons_of_mem _ (List.mem_cons_of_mem _ he))) (by rw [lenP, hCl]) (Acc.row rfl) hm 0 rfl (by omega) (by omega) fun p_c cap_c g_c b_c w ha_c hm => ?_
      replace ha_c := ha_c.to (show _ = cs.flatMap encP from List.nil_append _)
      refine rw_p rfl rfl (y_move rfl) ?_
      refine a_buildSlice (l := []) rfl rfl sl22 z5 rfl rfl rfl rfl rfl rfl rfl hm trivial fun m2 w hg_m2 hm hh => ?_
      refine rw_p rfl rfl (y_move rfl) ?_
      refine a_append rfl rfl rfl rfl rfl rfl sl22 sl22 z5 rfl (oneB bs) (hq.extN hm.to hqX) (lenB bs) (Acc.row rfl) hm 0 rfl (by omega) (by omega) fun p_d cap_d g_d b_d w ha_d hm => ?_
      replace ha_d := ha_d.to (show _ = bs.flatMap encB from List.nil_append _)
      refine rw_p rfl rfl (y_build (cs := [_, _]) z172 ft172 rfl rfl rfl rfl rfl) ?_
      refine a_buildSlice (l := [_, _]) rfl rfl sl48 z172 rfl rfl rfl rfl rfl rfl rfl hm trivial fun m3 w hg_m3 hm hh => ?_
      refine a_append rfl rfl rfl rfl rfl rfl sl48 sl48 z172 rfl rfl (Rd.row0 (hm.get (k := 0) rfl)) rfl ha_c hm 2 rfl (by omega) (by omega) fun p_c cap_c g_c b_c w ha_c hm => ?_
      refine rw_p rfl rfl (y_nil rfl) ?_
      refine rw_p rfl rfl (y_fieldAddr rfl fo50_3) ?_
      refine a_store rfl rfl rfl rfl sz48 rfl hm 3 rfl rfl fun w hm => ?_
      have hp9 := hp.add ha_c (by omega) hin ha_d (by omega)
      have hrow9 : ∀ n : Int, rfV { Pl.wAdd D i bs with wr := n } pb cb p_c cap_c = [.int .i64 (D.sz : Int), .int .i64 (D.cnt : Int), .slice pb D.dk.length cb, .slice p_c (0 + D.ca.length + 1) cap_c, .int .i64 n, .int .u64 D.kp, .bool D.dn, .int .i64 (Pl.inc D.sW), .int .i64 D.sF, .int .i64 D.sC, .int .i64 (max D.sH (i + 1)), .int .i64 (max D.sM ((0 + D.ca.length + 1 : Nat) : Int))] := fun n => by unfold rfV Pl.wAdd; simp only [List.length_append, List.length_singleton, Nat.zero_add]
      have hw9 : _ = (Pl.wAdd D i bs).ca := wr_add hwr i.toNat ⟨p_d, cap_d, bs⟩
      have hok9 := Pl.ok_add hok hc9 hbl hcl
      refine rw_done ?_
      refine gn_sq ?_
      refine HW_seq rfl ?_
      refine HW_text (.pure 0 (.pure 1 (.pure 2 (.pure 3 (.pure 4 (.pure 5 (.pure 6 (.act 7 .done)))))))) (by kernel_rfl) ?_
      refine rw_p rfl rfl (y_move rfl) ?_
      refine rw_p rfl rfl (y_nil rfl) ?_
      refine rw_p rfl rfl (y_fieldAddr rfl fo50_7) ?_
      refine rw_p rfl rfl (y_load rfl sc3 (hm.nt 3 rfl) rfl) ?_
      refine rw_p rfl rfl (y_add rfl rfl rfl) ?_
      refine rw_p rfl rfl (y_nil rfl) ?_
      refine rw_p rfl rfl (y_fieldAddr rfl fo50_7) ?_
      refine a_store rfl rfl rfl rfl sz3 rfl hm 3 rfl rfl fun w hm => ?_
      refine rw_done ?_
      refine gn_sq ?_
      refine HW_seq rfl ?_
      refine HW_text (.pure 0 (.pure 1 (.pure 2 (.pure 3 (.pure 4 (.pure 5 (.pure 6 (.pure 7 (.pure 8 (.pure 9 (.act 10 .done))))))))))) (by kernel_rfl) ?_
      refine rw_p rfl rfl (y_move rfl) ?_
      refine rw_p rfl rfl (y_move rfl) ?_
      refine rw_p rfl rfl (y_nil rfl) ?_
      refine rw_p rfl rfl (y_fieldAddr rfl fo50_10) ?_
      refine rw_p rfl rfl (y_load rfl sc3 (hm.nt 3 rfl) rfl) ?_
      refine rw_p rfl rfl (y_move rfl) ?_
      refine rw_p rfl rfl (y_add rfl rfl (i64w (by omega) (by omega))) ?_
      refine rw_p rfl rfl (y_max rfl rfl) ?_
      refine rw_p rfl rfl (y_nil rfl) ?_
      refine rw_p rfl rfl (y_fieldAddr rfl fo50_10) ?_
      refine a_store rfl rfl rfl rfl sz3 rfl hm 3 rfl rfl fun w hm => ?_
      refine rw_done ?_
      refine gn_sq ?_
      refine HW_seq rfl ?_
      refine HW_draw (.pure 0 (.pure 1 (.pure 2 (.pure 3 (.pure 4 (.pure 5 (.pure 6 (.pure 7 (.pure 8 (.pure 9 (.cut (.pure 10 (.pure 11 (.pure 12 (.act 13 .done))))))))))))))) No mix (by kernel_rfl) hm fun w hw hm0 hh => ?_
      have hm := hm0
      refine rw_p rfl rfl (y_move rfl) ?_
      refine rw_p rfl rfl (y_move rfl) ?_
      refine rw_p rfl rfl (y_nil rfl) ?_
      refine rw_p rfl rfl (y_fieldAddr rfl fo50_11) ?_
      refine rw_p rfl rfl (y_load rfl sc3 (hm0.nd 3 rfl id) rfl) ?_
      refine rw_p rfl rfl (y_move rfl) ?_
      refine rw_p rfl rfl (y_nil rfl) ?_
      refine rw_p rfl rfl (y_fieldAddr rfl fo50_3) ?_
      refine rw_p rfl rfl (y_load rfl sc48 (hm0.nd 3 rfl id) rfl) ?_
      refine rw_p rfl rfl (y_len rfl rfl sl48) ?_
      refine a_cut ?_
      refine rw_p rfl rfl (y_max rfl rfl) ?_
      refine rw_p rfl rfl (y_nil rfl) ?_
      refine rw_p rfl rfl (y_fieldAddr rfl fo50_11) ?_
      refine a_store rfl rfl rfl rfl sz3 rfl hm 3 rfl rfl fun w hm => ?_
      refine rw_done ?_
      refine gn_sq ?_
      refine HW_seq rfl ?_
      refine HW_seq rfl ?_
      refine HW_text (.pure 0 (.pure 1 (.pure 2 (.pure 3 (.pure 4 .done))))) (by kernel_rfl) ?_
      refine rw_p rfl rfl (y_move rfl) ?_
      refine rw_p rfl rfl (y_nil rfl) ?_
      refine rw_p rfl rfl (y_fieldAddr rfl fo50_4) ?_
      refine rw_p rfl rfl (y_load rfl sc3 (hm.nt 3 rfl) rfl) ?_
      refine rw_p rfl rfl (y_eq rfl rfl) ?_
      refine rw_done ?_
      refine gn_sq ?_
      refine HW_cond rfl rfl (fun hc2 => ?_) (fun hc2 => ?_)
      ·
        have hw0 : D.wr = 0 := by simpa using hc2
        have hm9 : Mem w0 w (Mn (reals ((m, .row 50 (rfV D pb cb pc cc)) :: B))) ((m, .row 50 (rfV { Pl.wAdd D i bs with wr := D.wr } pb cb p_c cap_c)) :: (g_c, b_c) :: (g_d, b_d) :: B) := by rw [hrow9]; exact (hm.pickT [3, 2, 1] 4 rfl)
        refine HW_seq rfl ?_
        refine HW_text (.pure 0 (.act 1 .done)) (by kernel_rfl) ?_
        refine rw_p rfl rfl (y_move rfl) ?_
        refine a_call rfl rfl rfl go103 (rf_crash (Pl.wAdd D i bs) m pb cb p_c cap_c _ _ _ hm9.ownZ (hb.mono (fun _ he => List.mem_cons_of_mem _ (List.mem_cons_of_mem _ he))) hp9 hw9 hok9 (by show (D.ca ++ [(i.toNat, bs)]).length ≤ _; rw [List.length_append, List.length_singleton]; omega)) fun v w hR => ?_
        obtain ⟨rfl, Z9, hz9, hmc⟩ := hR
        refine ⟨trivial, ?_⟩
        replace hm := Mem.callZL (A := []) hm9 hmc
        refine rw_done ?_
        refine gn_sq ?_
        refine HW_seq rfl ?_
        refine HW_text (.pure 0 .done) (by kernel_rfl) ?_
        refine rw_p rfl rfl (y_assign rfl) ?_
        refine rw_done ?_
        refine gn_sq ?_
        refine HW_ret rfl ?_
        refine gr_sq ?_
        refine toR (fin hret rfl (.tmp rfl .nil) .one ?_)
        exact ⟨by rw [Pl.wCode_cr hc9 hbl, if_pos hw0], Z9, by rw [Pl.wDv_cr hc9 hbl hw0]; exact hz9, hm⟩
      ·
        have hw0 : ¬ D.wr = 0 := by simpa using hc2
        refine HW_skip rfl ?_
        refine gn_sq ?_
        refine HW_seq rfl ?_
        refine HW_seq rfl ?_
        refine HW_text (.pure 0 (.pure 1 (.pure 2 (.pure 3 (.pure 4 .done))))) (by kernel_rfl) ?_
        refine rw_p rfl rfl (y_move rfl) ?_
        refine rw_p rfl rfl (y_nil rfl) ?_
        refine rw_p rfl rfl (y_fieldAddr rfl fo50_4) ?_
        refine rw_p rfl rfl (y_load rfl sc3 (hm.nt 3 rfl) rfl) ?_
        refine rw_p rfl rfl (y_gt rfl rfl) ?_
        refine rw_done ?_
        refine gn_sq ?_
        refine HW_cond rfl rfl (fun hc3 => ?_) (fun hc3 => ?_)
        ·
          have hw1 : 0 < D.wr := by simpa using hc3
          refine HW_text (.pure 0 (.pure 1 (.pure 2 (.pure 3 (.pure 4 (.pure 5 (.pure 6 (.act 7 .done)))))))) (by kernel_rfl) ?_
          refine rw_p rfl rfl (y_move rfl) ?_
          refine rw_p rfl rfl (y_nil rfl) ?_
          refine rw_p rfl rfl (y_fieldAddr rfl fo50_4) ?_
          refine rw_p rfl rfl (y_load rfl sc3 (hm.nt 3 rfl) rfl) ?_
          refine rw_p rfl rfl (y_sub rfl rfl (decI (by omega) (by omega))) ?_
          refine rw_p rfl rfl (y_nil rfl) ?_
          refine rw_p rfl rfl (y_fieldAddr rfl fo50_4) ?_
          refine a_store rfl rfl rfl rfl sz3 rfl hm 3 rfl rfl fun w hm => ?_
          refine rw_done ?_
          refine gn_sq ?_
          refine HW_seq rfl ?_
          refine HW_text (.pure 0 .done) (by kernel_rfl) ?_
          refine rw_p rfl rfl (y_assign rfl) ?_
          refine rw_done ?_
          refine gn_sq ?_
          refine HW_ret rfl ?_
          refine toR (fin hret rfl (.tmp rfl .nil) .one ?_)
          first | exact ⟨by rw [Pl.wCode_cr hc9 hbl, if_neg hw0], _, by rw [Pl.wDv_on hc9 hbl hw1]; exact ref_mk (D := { Pl.wAdd D i bs with wr := (D.wr - 1) }) (hb.mono (fun _ he => List.mem_cons_of_mem _ (List.mem_cons_of_mem _ he))) hp9 hw9 (Pl.ok_wr hok9 (by omega)), by show Mem _ _ _ ((m, .row _ (rfV { Pl.wAdd D i bs with wr := (D.wr - 1) } pb cb p_c cap_c)) :: _); rw [hrow9]; exact (hm.pickT [3, 2, 1] 4 rfl)⟩ | exact ⟨by rw [Pl.wCode_cr hc9 hbl, if_neg hw0], _, by rw [Pl.wDv_off hc9 hbl (by omega)]; exact ref_mk (D := Pl.wAdd D i bs) (hb.mono (fun _ he => List.mem_cons_of_mem _ (List.mem_cons_of_mem _ he))) hp9 hw9 hok9, by show Mem _ _ _ ((m, .row _ (rfV { Pl.wAdd D i bs with wr := D.wr } pb cb p_c cap_c)) :: _); rw [hrow9]; exact (hm.pickT [3, 2, 1] 4 rfl)⟩
        ·
          have hw1 : ¬ 0 < D.wr := by simpa using hc3
          refine HW_skip rfl ?_
          refine gn_sq ?_
          refine HW_seq rfl ?_
          refine HW_text (.pure 0 .done) (by kernel_rfl) ?_
          refine rw_p rfl rfl (y_assign rfl) ?_
          refine rw_done ?_
          refine gn_sq ?_
          refine HW_ret rfl ?_
          refine toR (fin hret rfl (.tmp rfl .nil) .one ?_)
          first | exact ⟨by rw [Pl.wCode_cr hc9 hbl, if_neg hw0], _, by rw [Pl.wDv_on hc9 hbl hw1]; exact ref_mk (D := { Pl.wAdd D i bs with wr := (D.wr - 1) }) (hb.mono (fun _ he => List.mem_cons_of_mem _ (List.mem_cons_of_mem _ he))) hp9 hw9 (Pl.ok_wr hok9 (by omega)), by show Mem _ _ _ ((m, .row _ (rfV { Pl.wAdd D i bs with wr := (D.wr - 1) } pb cb p_c cap_c)) :: _); rw [hrow9]; exact (hm.pickT [3, 2, 1] 4 rfl)⟩ | exact ⟨by rw [Pl.wCode_cr hc9 hbl, if_neg hw0], _, by rw [Pl.wDv_off hc9 hbl (by omega)]; exact ref_mk (D := Pl.wAdd D i bs) (hb.mono (fun _ he => List.mem_cons_of_mem _ (List.mem_cons_of_mem _ he))) hp9 hw9 hok9, by show Mem _ _ _ ((m, .row _ (rfV { Pl.wAdd D i bs with wr := D.wr } pb cb p_c cap_c)) :: _); rw [hrow9]; exact (hm.pickT [3, 2, 1] 4 rfl)⟩

set_option maxHeartbeats 800000 in
theorem rf_new (a c : Nat) (q : Option Addr) (cq : Nat) (bs : List UInt8) (w0 : World) (hq : Rd w0 q (bs.flatMap encB)) (h1 : 1 ≤ a) (h2 : 1 ≤ c) (h3 : c * a ≤ 1048576) (h4 : bs.length ≤ c * a) : C Tryz.prog 17 [.int .i64 (a : Int), .int .i64 (c : Int), .slice q bs.length cq] w0 fun v w' => ∃ m Z, v = .pointer (some ⟨m, 0, none⟩) ∧ RefZ 50 172 5 (Pl.nDv a c bs) m Z ∧ Mem w0 w' No Z := by
  have hMM : IntKind.i64.wrap ((a : Int) * (c : Int)) = ((c * a : Nat) : Int) := by rw [show (a : Int) * (c : Int) = ((c * a : Nat) : Int) by rw [Nat.mul_comm]; norm_cast]; exact i64w (by omega) (by omega)
  refine C_of Tryz.func17 rfl rfl rfl fun κ hret hnorm => ?_
  have hm := Mem.start w0
  refine HW_seq rfl ?_
  refine HW_text (.pure 0 .done) (by kernel_rfl) ?_
  refine rw_p rfl rfl (y_assign rfl) ?_
  refine rw_done ?_
  refine gn_sq ?_
  refine HW_seq rfl ?_
  refine HW_text (.pure 0 (.pure 1 (.pure 2 (.act 3 (.pure 4 .done))))) (by kernel_rfl) ?_
  refine rw_p rfl rfl (y_move rfl) ?_
  refine rw_p rfl rfl (y_move rfl) ?_
  refine rw_p rfl rfl (y_build (cs := [_, _, _, _, _, _, _, _, _, _, _, _]) z50 ft50 rfl rfl rfl rfl rfl) ?_
  refine a_box rfl rfl rfl rfl hm trivial fun m1 w hg_m1 hm hh => ?_
  refine rw_p rfl rfl (y_assign rfl) ?_
  refine rw_done ?_
  refine gn_sq ?_
  refine HW_seq rfl ?_
  refine HW_text (.pure 0 (.act 1 (.pure 2 (.act 3 (.pure 4 (.pure 5 (.act 6 .done))))))) (by kernel_rfl) ?_
  refine rw_p rfl rfl (y_move rfl) ?_
  refine a_buildSlice (l := []) rfl rfl sl22 z5 rfl rfl rfl rfl rfl rfl rfl hm trivial fun m2 w hg_m2 hm hh => ?_
  refine rw_p rfl rfl (y_move rfl) ?_
  refine a_append rfl rfl rfl rfl rfl rfl sl22 sl22 z5 rfl (oneB bs) (hq.ext0 hm.to) (lenB bs) (Acc.row rfl) hm 0 rfl (by omega) (by omega) fun p_d cap_d g_d b_d w ha_d hm => ?_
  replace ha_d := ha_d.to (show _ = (bs ++ List.replicate 0 0).flatMap encB by rw [List.replicate_zero, List.append_nil]; exact List.nil_append _)
  refine rw_p rfl rfl (y_nil rfl) ?_
  refine rw_p rfl rfl (y_fieldAddr rfl fo50_2) ?_
  refine a_store rfl rfl rfl rfl sz22 rfl hm 1 rfl rfl fun w hm => ?_
  refine rw_done ?_
  refine gn_sq ?_
  refine HW_seq rfl ?_
  refine HW_block rfl ?_
  refine HW_loopK (ι := Nat × Ow) rfl (ks := [0, 1, 6, 7]) (.cons rfl (.cons rfl (.cons rfl (.cons rfl .nil)))) (fun x => []) (fun x w => Mem w0 w No [(m1, .row 50 [.int .i64 (a : Int), .int .i64 (c : Int), .slice x.2.p x.2.n x.2.cap, .slice none 0 0, .int .i64 (-1), .int .u64 0, .bool false, .int .i64 0, .int .i64 0, .int .i64 0, .int .i64 0, .int .i64 0]), (x.2.g, x.2.b)] ∧ Acc 5 1 x.2.p x.2.n x.2.cap ((bs ++ List.replicate x.1 0).flatMap encB) x.2.g x.2.b ∧ bs.length + x.1 ≤ c * a) (fun x => c * a - x.1) (0, ⟨p_d, _, cap_d, g_d, b_d⟩) (⟨(hm.pick [1, 0] rfl), ha_d, by omega⟩) trivial (fun x w hM => ?_)
  obtain ⟨hm, ha_d, hk⟩ := hM
  refine HW_seq rfl ?_
  refine HW_seq rfl ?_
  refine HW_text (.pure 0 (.pure 1 (.pure 2 (.pure 3 (.pure 4 (.pure 5 (.pure 6 (.pure 7 (.pure 8 .done))))))))) (by kernel_rfl) ?_
  refine rw_p rfl rfl (y_move rfl) ?_
  refine rw_p rfl rfl (y_nil rfl) ?_
  refine rw_p rfl rfl (y_fieldAddr rfl fo50_2) ?_
  refine rw_p rfl rfl (y_load rfl sc22 (hm.nt 0 rfl) rfl) ?_
  refine rw_p rfl rfl (y_len rfl rfl sl22) ?_
  refine rw_p rfl rfl (y_move rfl) ?_
  refine rw_p rfl rfl (y_move rfl) ?_
  refine rw_p rfl rfl (y_mul rfl rfl hMM) ?_
  refine rw_p rfl rfl (y_lt rfl rfl) ?_
  refine rw_done ?_
  refine gn_sq ?_
  refine HW_cond rfl rfl (fun hc0 => ?_) (fun hc0 => ?_)
  ·
    have hn9 := ha_d.lenB
    rw [List.length_append, List.length_replicate] at hn9
    simp only [decide_eq_true_eq] at hc0
    refine HW_skip rfl ?_
    refine gn_sq ?_
    refine HW_block rfl ?_
    refine HW_text (.pure 0 (.pure 1 (.pure 2 (.pure 3 (.pure 4 (.act 5 (.act 6 (.pure 7 (.pure 8 (.act 9 .done)))))))))) (by kernel_rfl) ?_
    refine rw_p rfl rfl (y_move rfl) ?_
    refine rw_p rfl rfl (y_move rfl) ?_
    refine rw_p rfl rfl (y_nil rfl) ?_
    refine rw_p rfl rfl (y_fieldAddr rfl fo50_2) ?_
    refine rw_p rfl rfl (y_load rfl sc22 (hm.nt 0 rfl) rfl) ?_
    refine a_buildSlice (l := [_]) rfl rfl sl22 z5 rfl rfl rfl rfl rfl rfl rfl hm trivial fun m3 w hg_m3 hm hh => ?_
    refine a_append rfl rfl rfl rfl rfl rfl sl22 sl22 z5 rfl rfl (Rd.row0 (hm.get (k := 0) rfl)) rfl ha_d hm 2 rfl (by omega) (by omega) fun p_d cap_d g_d b_d w ha_d hm => ?_
    refine rw_p rfl rfl (y_nil rfl) ?_
    refine rw_p rfl rfl (y_fieldAddr rfl fo50_2) ?_
    refine a_store rfl rfl rfl rfl sz22 rfl hm 1 rfl rfl fun w hm => ?_
    refine rw_done ?_
    refine gn_bl ?_
    refine next (x.1 + 1, ⟨p_d, _, cap_d, g_d, b_d⟩) (by simp only; omega) ⟨(hm.pick [1, 2] rfl), ha_d.to ?_, by simp only; omega⟩ ⟨rfl, rfl, rfl, rfl, trivial⟩
    simp only [List.replicate_succ', List.flatMap_append, List.append_assoc]
    rfl
  ·
    have hn9 := ha_d.lenB
    have hn8 := hn9
    rw [List.length_append, List.length_replicate] at hn8
    simp only [decide_eq_false_iff_not] at hc0
    have hke : x.1 = c * a - bs.length := by omega
    rw [hke] at ha_d
    have hdk : (Pl.nDv a c bs).dk = bs ++ List.replicate (c * a - bs.length) 0 := rfl
    have hdl : (Pl.nDv a c bs).dk.length = x.2.n := by rw [Pl.new_len h4]; omega
    have hrow : rfV (Pl.nDv a c bs) x.2.p x.2.cap none 0 = [.int .i64 (a : Int), .int .i64 (c : Int), .slice x.2.p x.2.n x.2.cap, .slice none 0 0, .int .i64 (-1), .int .u64 0, .bool false, .int .i64 0, .int .i64 0, .int .i64 0, .int .i64 0, .int .i64 0] := by unfold rfV; rw [hdl]; rfl
    refine HW_exit rfl ?_
    refine gx_sq (gx_lp ?_)
    refine gx_here ?_
    refine gn_sq ?_
    refine HW_seq rfl ?_
    refine HW_text (.pure 0 (.pure 1 .done)) (by kernel_rfl) ?_
    refine rw_p rfl rfl (y_move rfl) ?_
    refine rw_p rfl rfl (y_assign rfl) ?_
    refine rw_done ?_
    refine gn_sq ?_
    refine HW_ret rfl ?_
    refine toR (fin hret rfl (.tmp rfl .nil) .one ?_)
    exact ⟨_, _, rfl, ref_mk (D := Pl.nDv a c bs) (pb := x.2.p) (cb := x.2.cap) (pc := none) (cc := 0) (cs := []) (B := [(0, .gap), (x.2.g, x.2.b)]) ⟨x.2.g, x.2.b, by simp, by rw [hdl]; exact ha_d⟩ (heldP_nil _ _ (by simp)) rfl (Pl.ok_new h1 h2 h3 h4), by rw [hrow]; exact (hm.gapIn.pick [1, 0, 2] rfl)⟩

theorem q_flush (D : Pl.Dv) (m : Nat) (Z : List (Nat × Blk)) (w0 : World) (hZ : OwnZ w0 Z) (hz : RefZ 50 172 5 D m Z) (hcl : D.ca.length ≤ 1000000000) : C Tryz.prog 42 [.pointer (some ⟨m, 0, none⟩)] w0 fun v w' => v = .int .i64 (Pl.fCode D) ∧ ∃ Z', RefZ 50 172 5 (Pl.fDv D) m Z' ∧ Mem w0 w' (Mn (reals Z)) Z' := by
  obtain ⟨pb, cb, pc, cc, cs, B, rfl, hb, hp, hwr, hok⟩ := hz
  exact rf_flush D m pb cb pc cc cs B w0 hZ hb hp hwr hok (by omega)

theorem q_put (D : Pl.Dv) (m : Nat) (Z : List (Nat × Blk)) (w0 : World) (hZ : OwnZ w0 Z) (hz : RefZ 50 172 5 D m Z) (q : Option Addr) (cq : Nat) (bs : List UInt8) (i : Int) (hq : Rd w0 q (bs.flatMap encB)) (hqX : bs.flatMap encB ≠ [] → ∀ a, q = some a → ¬ Mn (reals Z) a.block) (hle : bs.length ≤ cq) (hcl : D.ca.length ≤ 1000000000) : C Tryz.prog 83 [.pointer (some ⟨m, 0, none⟩), .int .i64 i, .slice q bs.length cq] w0 fun v w' => v = .int .i64 (Pl.wCode D i bs) ∧ ∃ Z', RefZ 50 172 5 (Pl.wDv D i bs) m Z' ∧ Mem w0 w' (Mn (reals Z)) Z' := by
  obtain ⟨pb, cb, pc, cc, cs, B, rfl, hb, hp, hwr, hok⟩ := hz
  exact rf_putd D m pb cb pc cc cs B w0 hZ hb hp hwr hok q cq bs i hq hqX hle hcl

theorem q_read (D : Pl.Dv) (m : Nat) (Z : List (Nat × Blk)) (w0 : World) (hZ : OwnZ w0 Z) (hz : RefZ 50 172 5 D m Z) (hcl : D.ca.length ≤ 1000000000) (i : Int) : C Tryz.prog 81 [.pointer (some ⟨m, 0, none⟩), .int .i64 i] w0 fun v w' => ∃ (q : Option Addr) (c : Nat), v = .tuple ⟨[.slice q (if Pl.codeAt D i = 0 then Pl.rdS D i else []).length c, .int .i64 (Pl.codeAt D i)]⟩ ∧ Rd w' q ((if Pl.codeAt D i = 0 then Pl.rdS D i else []).flatMap encB) ∧ Ext No w0 w' := by
  obtain ⟨pb, cb, pc, cc, cs, B, rfl, hb, hp, hwr, hok⟩ := hz
  exact rf_read D m pb cb pc cc cs B w0 hZ hb hp hwr hok (by omega) i

theorem q_contents (D : Pl.Dv) (m : Nat) (Z : List (Nat × Blk)) (w0 : World) (hZ : OwnZ w0 Z) (hz : RefZ 50 172 5 D m Z) (hcl : D.ca.length ≤ 1000000000) : C Tryz.prog 65 [.pointer (some ⟨m, 0, none⟩)] w0 fun v w' => ∃ (q : Option Addr) (c : Nat) (N : List (Nat × Blk)), v = .slice q (Pl.contents D).length c ∧ Held (N ++ Z) 5 ⟨q, c, Pl.contents D⟩ ∧ Mem w0 w' No N := by
  obtain ⟨pb, cb, pc, cc, cs, B, rfl, hb, hp, hwr, hok⟩ := hz
  refine (rf_contents D m pb cb pc cc cs B w0 hZ hb hp hwr hok (by omega)).mono fun v w' h => ?_
  obtain ⟨q, c, N, h1, h2, h3⟩ := h
  exact ⟨q, c, N, h1, h2.mono (fun e he => by rcases List.mem_append.1 he with h | h <;> simp [h]), h3⟩

end Go.Proofs.YthailbggeafckaaGreat
