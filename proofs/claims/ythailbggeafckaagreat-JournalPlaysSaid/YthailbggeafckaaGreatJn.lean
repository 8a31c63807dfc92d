/- Contracts of functions of the program: what each returns. Conditions: the hypotheses of each theorem. -/
import Derived.Test.YthailbggeafckaaGreatNw
import Derived.Test.YthailbggeafckaaGreatFio
set_option linter.unusedVariables false
set_option linter.unusedSimpArgs false
namespace Go.Proofs.YthailbggeafckaaGreat
open Go Go.Cx

theorem fo66_0 : fldO Tryz.prog 66 0 = some 0 := by kernel_rfl
theorem fo66_2 : fldO Tryz.prog 66 2 = some 2 := by kernel_rfl
theorem go18 : isGo Tryz.prog 18 = true := by kernel_rfl
theorem ag66 : aggS Tryz.prog 66 = some 3 := by kernel_rfl
theorem fo66_1 : fldO Tryz.prog 66 1 = some 1 := by kernel_rfl
theorem go49 : isGo Tryz.prog 49 = true := by kernel_rfl
theorem fo68_0 : fldO Tryz.prog 68 0 = some 0 := by kernel_rfl
theorem go25 : isGo Tryz.prog 25 = true := by kernel_rfl
theorem go26 : isGo Tryz.prog 26 = true := by kernel_rfl
theorem go27 : isGo Tryz.prog 27 = true := by kernel_rfl
theorem sc33 : scal Tryz.prog 33 = true := by kernel_rfl
theorem sc70 : scal Tryz.prog 70 = true := by kernel_rfl
theorem sz70 : szO Tryz.prog 70 = some 1 := by kernel_rfl

def jrow (pm : Value) (f b k : Int) (S : Pl.Jn) (p : Option Addr) (c : Nat) : List Value :=
  [pm, .int .i64 f, .int .i64 b, .int .u64 k, .int .u64 S.nx, .int .u64 S.la.sq, .int .u64 S.la.id, .int .i64 S.la.cu, .int .i64 S.la.of, .slice p S.la.bs.length c, .bool S.has]
/-- the blocks of a journal: its own and the data of its last record -/
def JZ (TJ U8 m : Nat) (f b k : Int) (S : Pl.Jn) (j : Nat) (Zj : List (Nat × Blk)) : Prop :=
  ∃ p c g bb, Zj = [(j, .row TJ (jrow (.pointer (some ⟨m, 0, none⟩)) f b k S p c)), (g, bb)] ∧ Acc U8 1 p S.la.bs.length c (S.la.bs.flatMap encB) g bb
/-- a run of bytes that ends a slice of the call's own -/
def HRd (B : List (Nat × Blk)) (U8 : Nat) (s : SB) : Prop := ∃ (g : Nat) (b : Blk) (p : Option Addr) (c : Nat) (al : List UInt8), (g, b) ∈ B ∧ Acc U8 1 p al.length c (al.flatMap encB) g b ∧ s.p = slp p c 40 1 ∧ al.drop 40 = s.bs
theorem HRd.mono {B C : List (Nat × Blk)} {U8 : Nat} {s : SB} (h : HRd B U8 s) (hs : ∀ e, e ∈ B → e ∈ C) : HRd C U8 s := by
  obtain ⟨g, b, p, c, al, h1, h2⟩ := h
  exact ⟨g, b, p, c, al, hs _ h1, h2⟩
theorem HRd.rd {B L : List (Nat × Blk)} {U8 : Nat} {s : SB} {w0 w : World} {X : Bs} (h : HRd B U8 s) (hm : Mem w0 w X L) (hs : ∀ e, e ∈ B → e ∈ L) : Rd w s.p (s.bs.flatMap encB) := by
  obtain ⟨g, b, p, c, al, h1, h2, h3, h4⟩ := h
  have h5 := (h2.rdM hm (hs _ h1)).dropB (l := 40) h2.le
  rw [h4] at h5
  rw [h3]
  exact h5
theorem bag2 {q1 q2 a b c : Nat × Blk} {M B : List (Nat × Blk)} : ([q1, q2] ++ M ++ ([a, b, c] ++ B)).Perm (q1 :: q2 :: a :: b :: c :: (M ++ B)) := by
  rw [List.append_assoc]
  exact ((List.perm_append_comm_assoc M [a, b, c] B).append_left [q1, q2])
theorem best_rc : ∀ (l : List RcV) (x : RcV), (l.foldl (fun b y => if b.sq < y.sq then y else b) x).rc = (l.map RcV.rc).foldl (fun b y => if b.sq < y.sq then y else b) x.rc
  | [], x => rfl
  | y :: r, x => by
    rw [List.foldl_cons, List.map_cons, List.foldl_cons, best_rc r]
    congr 1
    show (if x.sq < y.sq then y else x).rc = if x.sq < y.sq then y.rc else x.rc
    split <;> rfl
theorem bestR_rc (l : List RcV) : (bestR l).rc = Pl.bestC (l.map RcV.rc) := by
  cases l with
  | nil => rfl
  | cons x r => exact best_rc r x
theorem filt_rc (k : Int) (l : List RcV) : (l.filter fun x => decide (x.id = k)).map RcV.rc = (l.map RcV.rc).filter fun r => decide (r.id = k) := by
  rw [List.filter_map]; rfl

theorem rec_encT (r : Pl.Rc) (p : Option Addr) (cap : Nat) (w0 : World) (hx : Rd w0 p (r.bs.flatMap encB)) (hk : Pl.okRc r) (hl : r.bs.length ≤ 70368744177600) (hr : Pl.rright r = true) : C Tryz.prog 36 [.agg ⟨rcV r p r.bs.length cap⟩] w0 fun v w' => ∃ q c g b, v = .tuple ⟨[.slice q (Pl.renc r).length c, .int .i64 0]⟩ ∧ Acc 5 1 q (Pl.renc r).length c ((Pl.renc r).flatMap encB) g b ∧ Mem w0 w' No [(g, b)] :=
  (rec_encode r p cap w0 hx hk hl).mono fun v w' h => by
    simp only [hr, if_true] at h
    exact h

theorem rec_encF (r : Pl.Rc) (p : Option Addr) (cap : Nat) (w0 : World) (hx : Rd w0 p (r.bs.flatMap encB)) (hk : Pl.okRc r) (hl : r.bs.length ≤ 70368744177600) (hr : Pl.rright r = false) : C Tryz.prog 36 [.agg ⟨rcV r p r.bs.length cap⟩] w0 fun v w' => (∃ q c, v = .tuple ⟨[.slice q 0 c, .int .i64 2]⟩) ∧ Ext No w0 w' :=
  (rec_encode r p cap w0 hx hk hl).mono fun v w' h => by
    simp only [hr, Bool.false_eq_true, if_false] at h
    obtain ⟨q, c, g, b, h1, _, h3⟩ := h
    exact ⟨⟨q, c, h1⟩, h3.to⟩

theorem rec_decT (r : Pl.Rc) (p : Option Addr) (cap : Nat) (bs : List UInt8) (w0 : World) (hx : Rd w0 p (bs.flatMap encB)) (hle : bs.length ≤ cap) (hsp : cap ≠ 0 → ∀ ad, p = some ad → ad.spot = none) (hl : bs.length ≤ 70368744177664) (hr : Pl.rdec bs = some r) : C Tryz.prog 27 [.slice p bs.length cap] w0 fun v w' => ∃ (pa : Option Addr) (ca g : Nat) (b : Blk) (al : List UInt8), v = .tuple ⟨[.agg ⟨rcV r (slp pa ca 40 1) r.bs.length (ca - 40)⟩, .int .i64 0]⟩ ∧ Acc 5 1 pa al.length ca (al.flatMap encB) g b ∧ al.drop 40 = r.bs ∧ Mem w0 w' No [(g, b)] :=
  (rec_decode p cap bs w0 hx hle hsp hl).mono fun v w' h => by
    simp only [hr, Option.getD_some, Option.isSome_some, if_true] at h
    exact h

theorem rec_decF (p : Option Addr) (cap : Nat) (bs : List UInt8) (w0 : World) (hx : Rd w0 p (bs.flatMap encB)) (hle : bs.length ≤ cap) (hsp : cap ≠ 0 → ∀ ad, p = some ad → ad.spot = none) (hl : bs.length ≤ 70368744177664) (hr : Pl.rdec bs = none) : C Tryz.prog 27 [.slice p bs.length cap] w0 fun v w' => (∃ q c, v = .tuple ⟨[.agg ⟨rcV Pl.rc0 q 0 c⟩, .int .i64 19]⟩) ∧ Ext No w0 w' :=
  (rec_decode p cap bs w0 hx hle hsp hl).mono fun v w' h => by
    simp only [hr, Option.getD_none, Option.isSome_none, Bool.false_eq_true, if_false] at h
    obtain ⟨q, c, g, b, al, h1, _, _, h3⟩ := h
    exact ⟨⟨_, _, h1⟩, h3.to⟩

theorem jr_length (D : Pl.Dv) (m : Nat) (Z : List (Nat × Blk)) (w0 : World) (hZ : OwnZ w0 Z) (hz : DevZ 107 157 5 D m Z) (f b : Int) (hb : Pl.I64 b) : C Tryz.prog 49 [.agg ⟨[.pointer (some ⟨m, 0, none⟩), .int .i64 f, .int .i64 b]⟩] w0 fun v w' => v = .int .i64 (Pl.slot (D.sz : Int) b) ∧ Ext No w0 w' := by
  have hok := hz.ok
  have o1 := hok.sz
  have o4 := hok.max
  have o3 := hok.cnt
  have o5 : D.cnt ≤ D.cnt * D.sz := Nat.le_mul_of_pos_right _ o1
  have o7 : D.sz ≤ D.cnt * D.sz := Nat.le_mul_of_pos_left _ o3
  refine C_of Tryz.func49 rfl rfl rfl fun κ hret hnorm => ?_
  have hm := Mem.start w0
  refine HW_seq rfl ?_
  refine HW_text (.act 0 (.pure 1 .done)) (by kernel_rfl) ?_
  refine a_box rfl rfl rfl rfl hm trivial fun m1 w hg_m1 hm hh => ?_
  refine rw_p rfl rfl (y_assign rfl) ?_
  refine rw_done ?_
  refine gn_sq ?_
  refine HW_seq rfl ?_
  refine HW_draw (.pure 0 (.pure 1 (.pure 3 (.pure 4 (.act 2 (.cut (.act 5 (.pure 6 .done)))))))) No mix (by kernel_rfl) hm fun w hw hm0 hh => ?_
  have hm := hm0
  refine rw_p rfl rfl (y_fieldAddr rfl fo66_0) ?_
  refine rw_p rfl rfl (y_load rfl sc27 (hm0.nd 0 rfl id) rfl) ?_
  refine rw_p rfl rfl (y_fieldAddr rfl fo66_2) ?_
  refine rw_p rfl rfl (y_load rfl sc3 (hm0.nd 0 rfl id) rfl) ?_
  refine a_call rfl rfl rfl go48 (o_size D m Z _ (hZ.ext hm.to) hz) fun v w hR => ?_
  obtain ⟨rfl, hE⟩ := hR
  refine ⟨hh.ext hE, ?_⟩
  replace hm := hm.ext hE
  replace hh := hh.ext hE
  refine a_cut ?_
  refine a_call rfl rfl rfl go18 (j_slot (D.sz : Int) b _ (by simp only [Pl.I64]; omega) hb) fun v w hR => ?_
  obtain ⟨rfl, hE⟩ := hR
  refine ⟨trivial, ?_⟩
  replace hm := hm.ext hE
  refine rw_p rfl rfl (y_assign rfl) ?_
  refine rw_done ?_
  refine gn_sq ?_
  refine HW_ret rfl ?_
  refine toR (fin hret rfl (.tmp rfl .nil) .one ?_)
  exact ⟨rfl, hm.to⟩

set_option maxHeartbeats 800000 in
theorem jr_slot (D : Pl.Dv) (m : Nat) (Z : List (Nat × Blk)) (w0 : World) (hZ : OwnZ w0 Z) (hz : DevZ 107 157 5 D m Z) (f N : Nat) (b : Int) (hb : Pl.I64 b) (hN : Pl.slot (D.sz : Int) b = (N : Int)) (i : Nat) (hin : f + i * N + N ≤ D.cnt) : C Tryz.prog 26 [.agg ⟨[.pointer (some ⟨m, 0, none⟩), .int .i64 (f : Int), .int .i64 b]⟩, .int .i64 (i : Int)] w0 fun v w' => v = .agg ⟨[.int .i64 (((f + i * N) * D.sz : Nat) : Int), .int .i64 ((N * D.sz : Nat) : Int)]⟩ ∧ Ext No w0 w' := by
  have hok := hz.ok
  have o1 := hok.sz
  have o4 := hok.max
  have o3 := hok.cnt
  have o5 : D.cnt ≤ D.cnt * D.sz := Nat.le_mul_of_pos_right _ o1
  have o7 : D.sz ≤ D.cnt * D.sz := Nat.le_mul_of_pos_left _ o3
  have e1 : (f + i * N + N) * D.sz ≤ D.cnt * D.sz := Nat.mul_le_mul_right _ hin
  rw [Nat.add_mul _ N] at e1
  refine C_of Tryz.func26 rfl rfl rfl fun κ hret hnorm => ?_
  have hm := Mem.start w0
  refine HW_seq rfl ?_
  refine HW_text (.act 0 (.act 1 .done)) (by kernel_rfl) ?_
  refine a_box rfl rfl rfl rfl hm trivial fun m1 w hg_m1 hm hh => ?_
  refine a_alloc rfl rfl z63 hm trivial fun m2 w hg_m2 hm hh => ?_
  refine rw_done ?_
  refine gn_sq ?_
  refine HW_seq rfl ?_
  refine HW_text (.pure 0 (.act 1 (.pure 2 .done))) (by kernel_rfl) ?_
  refine rw_p rfl rfl (y_loadA (s := 3) (vs := [_, _, _]) rfl ag66 (hm.nt 1 rfl) rfl) ?_
  refine a_call rfl rfl rfl go49 (C.as (v := .int .i64 (N : Int)) (jr_length D m Z _ (hZ.ext hm.to) hz (f : Int) b hb) (by rw [hN])) fun v w hR => ?_
  obtain ⟨rfl, hE⟩ := hR
  refine ⟨trivial, ?_⟩
  replace hm := hm.ext hE
  refine rw_p rfl rfl (y_assign rfl) ?_
  refine rw_done ?_
  refine gn_sq ?_
  refine HW_seq rfl ?_
  refine HW_draw (.pure 0 (.pure 1 (.pure 2 (.pure 3 (.pure 4 (.pure 5 (.pure 6 (.pure 7 (.pure 10 (.pure 11 (.pure 12 (.act 8 (.pure 9 (.act 13 (.pure 14 (.cut (.pure 15 (.act 16 .done)))))))))))))))))) No mix (by kernel_rfl) hm fun w hw hm0 hh => ?_
  have hm := hm0
  refine rw_p rfl rfl (y_fieldAddr rfl fo66_1) ?_
  refine rw_p rfl rfl (y_load rfl sc3 (hm0.nd 1 rfl id) rfl) ?_
  refine rw_p rfl rfl (y_move rfl) ?_
  refine rw_p rfl rfl (y_move rfl) ?_
  refine rw_p rfl rfl (y_mul rfl rfl (mulN (by omega))) ?_
  refine rw_p rfl rfl (y_add rfl rfl (addK _ (by omega))) ?_
  refine rw_p rfl rfl (y_fieldAddr rfl fo66_0) ?_
  refine rw_p rfl rfl (y_load rfl sc27 (hm0.nd 1 rfl id) rfl) ?_
  refine rw_p rfl rfl (y_move rfl) ?_
  refine rw_p rfl rfl (y_fieldAddr rfl fo66_0) ?_
  refine rw_p rfl rfl (y_load rfl sc27 (hm0.nd 1 rfl id) rfl) ?_
  refine a_call rfl rfl rfl go48 (o_size D m Z _ (hZ.ext hm.to) hz) fun v w hR => ?_
  obtain ⟨rfl, hE⟩ := hR
  refine ⟨hh.ext hE, ?_⟩
  replace hm := hm.ext hE
  replace hh := hh.ext hE
  refine rw_p rfl rfl (y_mul rfl rfl (mulN (by omega))) ?_
  refine a_call rfl rfl rfl go48 (o_size D m Z _ (hZ.ext hm.to) hz) fun v w hR => ?_
  obtain ⟨rfl, hE⟩ := hR
  refine ⟨hh.ext hE, ?_⟩
  replace hm := hm.ext hE
  replace hh := hh.ext hE
  refine rw_p rfl rfl (y_mul rfl rfl (mulN (by omega))) ?_
  refine a_cut ?_
  refine rw_p rfl rfl (y_build (cs := [_, _]) z63 ft63 rfl rfl rfl rfl rfl) ?_
  refine a_store rfl rfl rfl rfl sz63 rfl hm 0 rfl rfl fun w hm => ?_
  refine rw_done ?_
  refine gn_sq ?_
  refine HW_ret rfl ?_
  refine toR (fin hret rfl (.cell rfl (run_loadVar_a (vs := [_, _]) ag63 (hm.get (k := 0) rfl) rfl) .nil) .one ?_)
  exact ⟨rfl, hm.to⟩

theorem jr_check (D : Pl.Dv) (m : Nat) (Z : List (Nat × Blk)) (w0 : World) (hZ : OwnZ w0 Z) (hz : DevZ 107 157 5 D m Z) (f b : Int) (hf : Pl.I64 f) (hb : Pl.I64 b) : C Tryz.prog 23 [.agg ⟨[.pointer (some ⟨m, 0, none⟩), .int .i64 f, .int .i64 b]⟩] w0 fun v w' => v = .int .i64 (Pl.jcheck D f b) ∧ Ext No w0 w' := by
  have hok := hz.ok
  have o4 := hok.max
  have o5 : D.cnt ≤ D.cnt * D.sz := Nat.le_mul_of_pos_right _ hok.sz
  have hsb := Pl.slot_bnd (D.sz : Int) b
  simp only [Pl.I64] at hf
  have hjc : Pl.jcheck D f b = if Pl.slot (D.sz : Int) b = 0 then 20 else if f < 0 ∨ (D.cnt : Int) < f ∨ (D.cnt : Int) - f < 2 * Pl.slot (D.sz : Int) b then 17 else 0 := rfl
  refine C_of Tryz.func23 rfl rfl rfl fun κ hret hnorm => ?_
  have hm := Mem.start w0
  refine HW_seq rfl ?_
  refine HW_text (.act 0 (.pure 1 .done)) (by kernel_rfl) ?_
  refine a_box rfl rfl rfl rfl hm trivial fun m1 w hg_m1 hm hh => ?_
  refine rw_p rfl rfl (y_assign rfl) ?_
  refine rw_done ?_
  refine gn_sq ?_
  refine HW_seq rfl ?_
  refine HW_seq rfl ?_
  refine HW_text (.pure 0 (.act 1 (.pure 2 .done))) (by kernel_rfl) ?_
  refine rw_p rfl rfl (y_loadA (s := 3) (vs := [_, _, _]) rfl ag66 (hm.nt 0 rfl) rfl) ?_
  refine a_call rfl rfl rfl go49 (jr_length D m Z _ (hZ.ext hm.to) hz f b hb) fun v w hR => ?_
  obtain ⟨rfl, hE⟩ := hR
  refine ⟨trivial, ?_⟩
  replace hm := hm.ext hE
  refine rw_p rfl rfl (y_assign rfl) ?_
  refine rw_done ?_
  refine gn_sq ?_
  refine HW_block rfl ?_
  refine HW_seq rfl ?_
  refine HW_text (.pure 0 (.pure 1 (.pure 2 (.pure 3 .done)))) (by kernel_rfl) ?_
  refine rw_p rfl rfl (y_fieldAddr rfl fo66_0) ?_
  refine rw_p rfl rfl (y_load rfl sc27 (hm.nt 0 rfl) rfl) ?_
  refine rw_p rfl rfl (y_pnil rfl rfl pb27) ?_
  refine rw_p rfl rfl (y_assign rfl) ?_
  refine rw_done ?_
  refine gn_sq ?_
  refine HW_condF rfl rfl rfl ?_
  refine HW_seq rfl ?_
  refine HW_text (.pure 0 (.pure 1 (.pure 2 .done))) (by kernel_rfl) ?_
  refine rw_p rfl rfl (y_move rfl) ?_
  refine rw_p rfl rfl (y_eq rfl rfl) ?_
  refine rw_p rfl rfl (y_assign rfl) ?_
  refine rw_done ?_
  refine gn_sq ?_
  refine HW_cond rfl rfl (fun hc1 => ?_) (fun hc1 => ?_)
  ·
    simp only [decide_eq_true_eq] at hc1
    refine HW_seq rfl ?_
    refine HW_text (.pure 0 .done) (by kernel_rfl) ?_
    refine rw_p rfl rfl (y_assign rfl) ?_
    refine rw_done ?_
    refine gn_sq ?_
    refine HW_ret rfl ?_
    refine gr_bl (gr_sq ?_)
    refine toR (fin hret rfl (.tmp rfl .nil) .one ?_)
    exact ⟨by rw [hjc, if_pos hc1], hm.to⟩
  ·
    simp only [decide_eq_false_iff_not] at hc1
    refine HW_seq rfl ?_
    rcases (show f < 0 ∨ (0 ≤ f ∧ (D.cnt : Int) < f) ∨ (0 ≤ f ∧ f ≤ (D.cnt : Int)) by omega) with hA | ⟨hA, hB⟩ | ⟨hA, hB⟩
    ·
      refine HW_draw (.pure 0 (.pure 1 (.pure 2 (.pure 3 (.pure 4 (.pure 5 (.pure 6 (.pure 7 (.act 8 (.pure 9 (.pure 10 (.pure 11 (.pure 12 (.pure 13 (.pure 15 (.pure 16 (.pure 18 (.pure 19 (.act 14 (.pure 17 (.pure 20 (.pure 21 (.pure 22 .done))))))))))))))))))))))) No mix (by kernel_rfl) hm fun w hw hm0 hh => ?_
      have hm := hm0
      refine rw_p rfl rfl (y_fieldAddr rfl fo66_1) ?_
      refine rw_p rfl rfl (y_load rfl sc3 (hm0.nd 0 rfl id) rfl) ?_
      refine rw_p rfl rfl (y_as (c := true) (y_lt rfl rfl) (decide_eq_true hA)) ?_
      refine rw_p rfl rfl (y_move rfl) ?_
      refine rw_gf rfl rfl (by decide) rfl ?_
      refine rw_gf rfl rfl (by decide) rfl ?_
      refine rw_gf rfl rfl (by decide) rfl ?_
      refine rw_gf rfl rfl (by decide) rfl ?_
      refine a_gf rfl rfl (by decide) rfl hh ?_
      refine rw_gf rfl rfl (by decide) rfl ?_
      refine rw_p rfl rfl (y_pickT rfl rfl) ?_
      refine rw_p rfl rfl (y_move rfl) ?_
      refine rw_gf rfl rfl (by decide) rfl ?_
      refine rw_gf rfl rfl (by decide) rfl ?_
      refine rw_gf rfl rfl (by decide) rfl ?_
      refine rw_gf rfl rfl (by decide) rfl ?_
      refine rw_gf rfl rfl (by decide) rfl ?_
      refine rw_gf rfl rfl (by decide) rfl ?_
      refine a_gf rfl rfl (by decide) rfl hh ?_
      refine rw_gf rfl rfl (by decide) rfl ?_
      refine rw_gf rfl rfl (by decide) rfl ?_
      refine rw_p rfl rfl (y_pickT rfl rfl) ?_
      refine rw_p rfl rfl (y_assign rfl) ?_
      refine rw_done ?_
      refine gn_sq ?_
      refine HW_condT rfl rfl rfl ?_
      refine HW_seq rfl ?_
      refine HW_text (.pure 0 .done) (by kernel_rfl) ?_
      refine rw_p rfl rfl (y_assign rfl) ?_
      refine rw_done ?_
      refine gn_sq ?_
      refine HW_ret rfl ?_
      refine gr_bl (gr_sq ?_)
      refine toR (fin hret rfl (.tmp rfl .nil) .one ?_)
      exact ⟨by rw [hjc, if_neg hc1, if_pos (by omega)], hm.to⟩
    ·
      refine HW_draw (.pure 0 (.pure 1 (.pure 2 (.pure 3 (.pure 4 (.pure 5 (.pure 6 (.pure 7 (.act 8 (.pure 9 (.pure 10 (.pure 11 (.pure 12 (.pure 13 (.pure 15 (.pure 16 (.pure 18 (.pure 19 (.act 14 (.pure 17 (.pure 20 (.pure 21 (.pure 22 .done))))))))))))))))))))))) No mix (by kernel_rfl) hm fun w hw hm0 hh => ?_
      have hm := hm0
      refine rw_p rfl rfl (y_fieldAddr rfl fo66_1) ?_
      refine rw_p rfl rfl (y_load rfl sc3 (hm0.nd 0 rfl id) rfl) ?_
      refine rw_p rfl rfl (y_as (c := false) (y_lt rfl rfl) (decide_eq_false (by omega))) ?_
      refine rw_p rfl rfl (y_move rfl) ?_
      refine rw_p rfl rfl (y_fieldAddr rfl fo66_1) ?_
      refine rw_p rfl rfl (y_load rfl sc3 (hm0.nd 0 rfl id) rfl) ?_
      refine rw_p rfl rfl (y_fieldAddr rfl fo66_0) ?_
      refine rw_p rfl rfl (y_load rfl sc27 (hm0.nd 0 rfl id) rfl) ?_
      refine a_call rfl rfl rfl go50 (o_sectors D m Z _ (hZ.ext hm.to) hz) fun v w hR => ?_
      obtain ⟨rfl, hE⟩ := hR
      refine ⟨hh.ext hE, ?_⟩
      replace hm := hm.ext hE
      replace hh := hh.ext hE
      refine rw_p rfl rfl (y_as (c := true) (y_gt rfl rfl) (decide_eq_true hB)) ?_
      refine rw_p rfl rfl (y_pickF rfl rfl) ?_
      refine rw_p rfl rfl (y_move rfl) ?_
      refine rw_gf rfl rfl (by decide) rfl ?_
      refine rw_gf rfl rfl (by decide) rfl ?_
      refine rw_gf rfl rfl (by decide) rfl ?_
      refine rw_gf rfl rfl (by decide) rfl ?_
      refine rw_gf rfl rfl (by decide) rfl ?_
      refine rw_gf rfl rfl (by decide) rfl ?_
      refine a_gf rfl rfl (by decide) rfl hh ?_
      refine rw_gf rfl rfl (by decide) rfl ?_
      refine rw_gf rfl rfl (by decide) rfl ?_
      refine rw_p rfl rfl (y_pickT rfl rfl) ?_
      refine rw_p rfl rfl (y_assign rfl) ?_
      refine rw_done ?_
      refine gn_sq ?_
      refine HW_condT rfl rfl rfl ?_
      refine HW_seq rfl ?_
      refine HW_text (.pure 0 .done) (by kernel_rfl) ?_
      refine rw_p rfl rfl (y_assign rfl) ?_
      refine rw_done ?_
      refine gn_sq ?_
      refine HW_ret rfl ?_
      refine gr_bl (gr_sq ?_)
      refine toR (fin hret rfl (.tmp rfl .nil) .one ?_)
      exact ⟨by rw [hjc, if_neg hc1, if_pos (by omega)], hm.to⟩
    ·
      refine HW_draw (.pure 0 (.pure 1 (.pure 2 (.pure 3 (.pure 4 (.pure 5 (.pure 6 (.pure 7 (.act 8 (.pure 9 (.pure 10 (.pure 11 (.pure 12 (.pure 13 (.pure 15 (.pure 16 (.pure 18 (.pure 19 (.act 14 (.pure 17 (.pure 20 (.pure 21 (.pure 22 .done))))))))))))))))))))))) No mix (by kernel_rfl) hm fun w hw hm0 hh => ?_
      have hm := hm0
      refine rw_p rfl rfl (y_fieldAddr rfl fo66_1) ?_
      refine rw_p rfl rfl (y_load rfl sc3 (hm0.nd 0 rfl id) rfl) ?_
      refine rw_p rfl rfl (y_as (c := false) (y_lt rfl rfl) (decide_eq_false (by omega))) ?_
      refine rw_p rfl rfl (y_move rfl) ?_
      refine rw_p rfl rfl (y_fieldAddr rfl fo66_1) ?_
      refine rw_p rfl rfl (y_load rfl sc3 (hm0.nd 0 rfl id) rfl) ?_
      refine rw_p rfl rfl (y_fieldAddr rfl fo66_0) ?_
      refine rw_p rfl rfl (y_load rfl sc27 (hm0.nd 0 rfl id) rfl) ?_
      refine a_call rfl rfl rfl go50 (o_sectors D m Z _ (hZ.ext hm.to) hz) fun v w hR => ?_
      obtain ⟨rfl, hE⟩ := hR
      refine ⟨hh.ext hE, ?_⟩
      replace hm := hm.ext hE
      replace hh := hh.ext hE
      refine rw_p rfl rfl (y_as (c := false) (y_gt rfl rfl) (decide_eq_false (by omega))) ?_
      refine rw_p rfl rfl (y_pickF rfl rfl) ?_
      refine rw_p rfl rfl (y_move rfl) ?_
      refine rw_p rfl rfl (y_fieldAddr rfl fo66_0) ?_
      refine rw_p rfl rfl (y_load rfl sc27 (hm0.nd 0 rfl id) rfl) ?_
      refine rw_p rfl rfl (y_fieldAddr rfl fo66_1) ?_
      refine rw_p rfl rfl (y_load rfl sc3 (hm0.nd 0 rfl id) rfl) ?_
      refine rw_p rfl rfl (y_move rfl) ?_
      refine rw_p rfl rfl (y_mul rfl rfl (i64w (by omega) (by omega))) ?_
      refine a_call rfl rfl rfl go50 (o_sectors D m Z _ (hZ.ext hm.to) hz) fun v w hR => ?_
      obtain ⟨rfl, hE⟩ := hR
      refine ⟨hh.ext hE, ?_⟩
      replace hm := hm.ext hE
      replace hh := hh.ext hE
      refine rw_p rfl rfl (y_sub rfl rfl (i64w (by omega) (by omega))) ?_
      refine rw_p rfl rfl (y_lt rfl rfl) ?_
      refine rw_p rfl rfl (y_pickF rfl rfl) ?_
      refine rw_p rfl rfl (y_assign rfl) ?_
      refine rw_done ?_
      refine gn_sq ?_
      refine HW_cond rfl rfl (fun hc2 => ?_) (fun hc2 => ?_)
      ·
        simp only [decide_eq_true_eq] at hc2
        refine HW_seq rfl ?_
        refine HW_text (.pure 0 .done) (by kernel_rfl) ?_
        refine rw_p rfl rfl (y_assign rfl) ?_
        refine rw_done ?_
        refine gn_sq ?_
        refine HW_ret rfl ?_
        refine gr_bl (gr_sq ?_)
        refine toR (fin hret rfl (.tmp rfl .nil) .one ?_)
        exact ⟨by rw [hjc, if_neg hc1, if_pos (by omega)], hm.to⟩
      ·
        simp only [decide_eq_false_iff_not] at hc2
        refine HW_skip rfl ?_
        refine gn_bl ?_
        refine gn_sq ?_
        refine HW_seq rfl ?_
        refine HW_text (.pure 0 .done) (by kernel_rfl) ?_
        refine rw_p rfl rfl (y_assign rfl) ?_
        refine rw_done ?_
        refine gn_sq ?_
        refine HW_ret rfl ?_
        refine toR (fin hret rfl (.tmp rfl .nil) .one ?_)
        exact ⟨by rw [hjc, if_neg hc1, if_neg (by omega)], hm.to⟩

theorem jr_lengthN (f b : Int) (hb : Pl.I64 b) (w0 : World) : C Tryz.prog 49 [.agg ⟨[.pointer none, .int .i64 f, .int .i64 b]⟩] w0 fun v w' => v = .int .i64 0 ∧ Ext No w0 w' := by
  refine C_of Tryz.func49 rfl rfl rfl fun κ hret hnorm => ?_
  have hm := Mem.start w0
  refine HW_seq rfl ?_
  refine HW_text (.act 0 (.pure 1 .done)) (by kernel_rfl) ?_
  refine a_box rfl rfl rfl rfl hm trivial fun m1 w hg_m1 hm hh => ?_
  refine rw_p rfl rfl (y_assign rfl) ?_
  refine rw_done ?_
  refine gn_sq ?_
  refine HW_seq rfl ?_
  refine HW_draw (.pure 0 (.pure 1 (.pure 3 (.pure 4 (.act 2 (.cut (.act 5 (.pure 6 .done)))))))) No mix (by kernel_rfl) hm fun w hw hm0 hh => ?_
  have hm := hm0
  refine rw_p rfl rfl (y_fieldAddr rfl fo66_0) ?_
  refine rw_p rfl rfl (y_load rfl sc27 (hm0.nd 0 rfl id) rfl) ?_
  refine rw_p rfl rfl (y_fieldAddr rfl fo66_2) ?_
  refine rw_p rfl rfl (y_load rfl sc3 (hm0.nd 0 rfl id) rfl) ?_
  refine a_call rfl rfl rfl go48 (d_sizeN _) fun v w hR => ?_
  obtain ⟨rfl, hE⟩ := hR
  refine ⟨hh.ext hE, ?_⟩
  replace hm := hm.ext hE
  replace hh := hh.ext hE
  refine a_cut ?_
  refine a_call rfl rfl rfl go18 (C.as (v := .int .i64 0) (j_slot 0 b _ (by decide) hb) (by rw [(Pl.slot_zero 0 b).2 (by omega)])) fun v w hR => ?_
  obtain ⟨rfl, hE⟩ := hR
  refine ⟨trivial, ?_⟩
  replace hm := hm.ext hE
  refine rw_p rfl rfl (y_assign rfl) ?_
  refine rw_done ?_
  refine gn_sq ?_
  refine HW_ret rfl ?_
  refine toR (fin hret rfl (.tmp rfl .nil) .one ?_)
  exact ⟨rfl, hm.to⟩

theorem jr_checkN (f b : Int) (hb : Pl.I64 b) (w0 : World) : C Tryz.prog 23 [.agg ⟨[.pointer none, .int .i64 f, .int .i64 b]⟩] w0 fun v w' => v = .int .i64 1 ∧ Ext No w0 w' := by
  refine C_of Tryz.func23 rfl rfl rfl fun κ hret hnorm => ?_
  have hm := Mem.start w0
  refine HW_seq rfl ?_
  refine HW_text (.act 0 (.pure 1 .done)) (by kernel_rfl) ?_
  refine a_box rfl rfl rfl rfl hm trivial fun m1 w hg_m1 hm hh => ?_
  refine rw_p rfl rfl (y_assign rfl) ?_
  refine rw_done ?_
  refine gn_sq ?_
  refine HW_seq rfl ?_
  refine HW_seq rfl ?_
  refine HW_text (.pure 0 (.act 1 (.pure 2 .done))) (by kernel_rfl) ?_
  refine rw_p rfl rfl (y_loadA (s := 3) (vs := [_, _, _]) rfl ag66 (hm.nt 0 rfl) rfl) ?_
  refine a_call rfl rfl rfl go49 (jr_lengthN f b hb _) fun v w hR => ?_
  obtain ⟨rfl, hE⟩ := hR
  refine ⟨trivial, ?_⟩
  replace hm := hm.ext hE
  refine rw_p rfl rfl (y_assign rfl) ?_
  refine rw_done ?_
  refine gn_sq ?_
  refine HW_block rfl ?_
  refine HW_seq rfl ?_
  refine HW_text (.pure 0 (.pure 1 (.pure 2 (.pure 3 .done)))) (by kernel_rfl) ?_
  refine rw_p rfl rfl (y_fieldAddr rfl fo66_0) ?_
  refine rw_p rfl rfl (y_load rfl sc27 (hm.nt 0 rfl) rfl) ?_
  refine rw_p rfl rfl (y_pnil rfl rfl pb27) ?_
  refine rw_p rfl rfl (y_assign rfl) ?_
  refine rw_done ?_
  refine gn_sq ?_
  refine HW_condT rfl rfl rfl ?_
  refine HW_seq rfl ?_
  refine HW_text (.pure 0 .done) (by kernel_rfl) ?_
  refine rw_p rfl rfl (y_assign rfl) ?_
  refine rw_done ?_
  refine gn_sq ?_
  refine HW_ret rfl ?_
  refine gr_bl (gr_sq ?_)
  refine toR (fin hret rfl (.tmp rfl .nil) .one ?_)
  exact ⟨rfl, hm.to⟩

theorem rdB_len {D : Pl.Dv} (h : Pl.okDv D) (a b : Int) : (Pl.rdB D a b).length ≤ 1048576 := by
  have h1 := Pl.contents_len h
  have h2 := h.max
  unfold Pl.rdB
  split
  · rw [List.length_take, List.length_drop]; omega
  · exact Nat.zero_le _

set_option maxHeartbeats 1600000 in
theorem j_open1 (D : Pl.Dv) (m : Nat) (Z : List (Nat × Blk)) (w0 : World) (hZ : OwnZ w0 Z) (hz : DevZ 107 157 5 D m Z) (f N : Nat) (b : Int) (hb : Pl.I64 b) (hN : Pl.slot (D.sz : Int) b = (N : Int)) (k : Int) (i : Nat) (h2 : f + 2 * N ≤ D.cnt) (hi2 : i < 2) (hdn : D.dn = false) (q1 q2 q3 j : Nat) (hq1 : w0.heap[q1]? = some (Blk.row 27 [.pointer (some ⟨m, 0, none⟩)]).toObj) (hq2 : w0.heap[q2]? = some (Blk.row 33 [.pointer (some ⟨j, 0, none⟩)]).toObj) (hj : w0.heap[j]? = some (Blk.row 68 [.pointer (some ⟨m, 0, none⟩), .int .i64 (f : Int), .int .i64 b, .int .u64 k, .int .u64 1, .int .u64 0, .int .u64 0, .int .i64 0, .int .i64 0, .slice none 0 0, .bool false]).toObj) (p_s : Option Addr) (cap_s g_s : Nat) (b_s : Blk) (xs : List RcV) (ha_s : Acc 57 5 p_s xs.length cap_s (xs.flatMap encR) g_s b_s) (hO : OwnZ w0 [(q3, .row 70 [.slice p_s xs.length cap_s]), (g_s, b_s)]) (hlen : xs.length ≤ 1000) : C Tryz.prog 24 [.int .i64 (i : Int), .pointer (some ⟨q1, 0, none⟩), .pointer (some ⟨q2, 0, none⟩), .pointer (some ⟨q3, 0, none⟩)] w0 fun v w' => v = .int .i64 0 ∧ ∃ p' cap' g' b' xs' B, Acc 57 5 p' (xs' : List RcV).length cap' (xs'.flatMap encR) g' b' ∧ Mem w0 w' (Mn (reals [(q3, .row 70 [.slice p_s xs.length cap_s]), (g_s, b_s)])) ((q3, .row 70 [.slice p' xs'.length cap']) :: (g', b') :: B) ∧ xs'.map RcV.rc = xs.map RcV.rc ++ (Pl.jrec D f N i).toList ∧ ∀ y ∈ xs', y ∈ xs ∨ HRd B 5 y.d := by
  have hok := hz.ok
  have o1 := hok.sz
  have o4 := hok.max
  have o3 := hok.cnt
  have o5 : D.cnt ≤ D.cnt * D.sz := Nat.le_mul_of_pos_right _ o1
  have o7 : D.sz ≤ D.cnt * D.sz := Nat.le_mul_of_pos_left _ o3
  have hin : f + i * N + N ≤ D.cnt := by rcases (show i = 0 ∨ i = 1 by omega) with h9 | h9 <;> rw [h9] <;> omega
  have e1 : (f + i * N + N) * D.sz ≤ D.cnt * D.sz := Nat.mul_le_mul_right _ hin
  rw [Nat.add_mul _ N] at e1
  have hrc : Pl.rdCode D (((f + i * N) * D.sz : Nat) : Int) ((N * D.sz : Nat) : Int) = 0 := Pl.jcode hok hdn h2 hi2
  refine C_of Tryz.func24 rfl rfl rfl fun κ hret hnorm => ?_
  have hm := Mem.start w0
  refine HW_seq rfl ?_
  refine HW_text (.pure 0 .done) (by kernel_rfl) ?_
  refine rw_p rfl rfl (y_assign rfl) ?_
  refine rw_done ?_
  refine gn_sq ?_
  refine HW_seq rfl ?_
  refine HW_draw (.pure 0 (.pure 1 (.pure 2 (.pure 3 (.pure 4 (.pure 5 (.act 6 (.act 7 (.pure 8 (.pure 9 (.pure 10 (.pure 11 (.pure 12 .done))))))))))))) No mix (by kernel_rfl) hm fun w hw hm0 hh => ?_
  have hm := hm0
  refine rw_p rfl rfl (y_load rfl sc27 (fun u hu => ((hm0.to.trans hu).same _ (Array.getElem?_eq_some_iff.1 hq1).1 id).trans hq1) rfl) ?_
  refine rw_p rfl rfl (y_load rfl sc33 (fun u hu => ((hm0.to.trans hu).same _ (Array.getElem?_eq_some_iff.1 hq2).1 id).trans hq2) rfl) ?_
  refine rw_p rfl rfl (y_nil rfl) ?_
  refine rw_p rfl rfl (y_fieldAddr rfl fo68_0) ?_
  refine rw_p rfl rfl (y_loadA (s := 3) (vs := [_, _, _]) rfl ag66 (fun u hu => ((hm0.to.trans hu).same _ (Array.getElem?_eq_some_iff.1 hj).1 id).trans hj) rfl) ?_
  refine rw_p rfl rfl (y_move rfl) ?_
  refine a_call rfl rfl rfl go26 (jr_slot D m Z _ (hZ.ext hm.to) hz f N b hb hN i hin) fun v w hR => ?_
  obtain ⟨rfl, hE⟩ := hR
  refine ⟨hh.ext hE, ?_⟩
  replace hm := hm.ext hE
  replace hh := hh.ext hE
  refine a_call rfl rfl rfl go25 (f_readA D m Z _ (hZ.ext hm.to) hz (((f + i * N) * D.sz : Nat) : Int) ((N * D.sz : Nat) : Int) (by simp only [Pl.I64]; omega) (by simp only [Pl.I64]; omega)) fun v w hR => ?_
  obtain ⟨p_d, cap_d, g_d, b_d, rfl, ha_d, hmc⟩ := hR
  refine ⟨hh.ext hmc.to, ?_⟩
  have hg_d : b_d.real = true → _ := fun hr => (hmc.fresh _ List.mem_cons_self hr).resolve_left id
  replace hh := hh.ext hmc.to
  replace hm := hm.callN hmc
  rw [hrc]
  refine rw_p rfl rfl (y_move rfl) ?_
  refine rw_p rfl rfl (y_extract rfl rfl) ?_
  refine rw_p rfl rfl (y_extract rfl rfl) ?_
  refine rw_p rfl rfl (y_assign rfl) ?_
  refine rw_p rfl rfl (y_assign rfl) ?_
  refine rw_done ?_
  refine gn_sq ?_
  refine HW_seq rfl ?_
  refine HW_seq rfl ?_
  refine HW_text (.pure 0 (.pure 1 .done)) (by kernel_rfl) ?_
  refine rw_p rfl rfl (y_move rfl) ?_
  refine rw_p rfl rfl (y_as (c := false) (y_ne rfl rfl) (by decide)) ?_
  refine rw_done ?_
  refine gn_sq ?_
  refine HW_condF rfl rfl rfl ?_
  refine HW_skip rfl ?_
  refine gn_sq ?_
  refine HW_seq rfl ?_
  refine HW_seq rfl ?_
  cases hr : Pl.jrec D f N i
  ·
    refine HW_text (.pure 0 (.act 1 (.pure 2 (.pure 3 (.pure 4 (.act 5 (.act 6 (.pure 7 .done)))))))) (by kernel_rfl) ?_
    refine rw_p rfl rfl (y_move rfl) ?_
    refine a_call rfl rfl rfl go27 (rec_decF p_d cap_d (Pl.rdB D (((f + i * N) * D.sz : Nat) : Int) ((N * D.sz : Nat) : Int)) _ (ha_d.rd hm 0 rfl) ha_d.le ha_d.spot (Nat.le_trans (rdB_len hok _ _) (by decide)) hr) fun v w hR => ?_
    obtain ⟨⟨q_, c_, rfl⟩, hE⟩ := hR
    refine ⟨trivial, ?_⟩
    replace hm := hm.ext hE
    refine rw_p rfl rfl (y_move rfl) ?_
    refine rw_p rfl rfl (y_extract rfl rfl) ?_
    refine rw_p rfl rfl (y_extract rfl rfl) ?_
    refine a_alloc rfl rfl z57 hm trivial fun m1 w hg_m1 hm hh => ?_
    refine a_store rfl rfl rfl rfl sz57 rfl hm 0 rfl rfl fun w hm => ?_
    refine rw_p rfl rfl (y_assign rfl) ?_
    refine rw_done ?_
    refine gn_sq ?_
    refine HW_seq rfl ?_
    refine HW_text (.pure 0 (.pure 1 .done)) (by kernel_rfl) ?_
    refine rw_p rfl rfl (y_move rfl) ?_
    refine rw_p rfl rfl (y_as (c := false) (y_eq rfl rfl) (by decide)) ?_
    replace hm := hm.withZ hO
    refine rw_done ?_
    refine gn_sq ?_
    refine HW_condF rfl rfl rfl ?_
    refine HW_skip rfl ?_
    refine gn_sq ?_
    refine HW_seq rfl ?_
    refine HW_text (.pure 0 .done) (by kernel_rfl) ?_
    refine rw_p rfl rfl (y_assign rfl) ?_
    refine rw_done ?_
    refine gn_sq ?_
    refine HW_ret rfl ?_
    refine toR (fin hret rfl (.tmp rfl .nil) .one ?_)
    exact ⟨rfl, p_s, cap_s, g_s, b_s, xs, [], ha_s, (hm.pick [2, 3] rfl), by rw [hr]; simp, fun y hy => .inl hy⟩
  ·
    rename_i rr
    refine HW_text (.pure 0 (.act 1 (.pure 2 (.pure 3 (.pure 4 (.act 5 (.act 6 (.pure 7 .done)))))))) (by kernel_rfl) ?_
    refine rw_p rfl rfl (y_move rfl) ?_
    refine a_call rfl rfl rfl go27 (rec_decT rr p_d cap_d (Pl.rdB D (((f + i * N) * D.sz : Nat) : Int) ((N * D.sz : Nat) : Int)) _ (ha_d.rd hm 0 rfl) ha_d.le ha_d.spot (Nat.le_trans (rdB_len hok _ _) (by decide)) hr) fun v w hR => ?_
    obtain ⟨p_t, cap_t, g_t, b_t, al_t, rfl, ha_t, hal_t, hmc⟩ := hR
    refine ⟨trivial, ?_⟩
    replace hm := hm.callN hmc
    refine rw_p rfl rfl (y_move rfl) ?_
    refine rw_p rfl rfl (y_extract rfl rfl) ?_
    refine rw_p rfl rfl (y_extract rfl rfl) ?_
    refine a_alloc rfl rfl z57 hm trivial fun m1 w hg_m1 hm hh => ?_
    refine a_store rfl rfl rfl rfl sz57 rfl hm 0 rfl rfl fun w hm => ?_
    refine rw_p rfl rfl (y_assign rfl) ?_
    refine rw_done ?_
    refine gn_sq ?_
    refine HW_seq rfl ?_
    refine HW_text (.pure 0 (.pure 1 .done)) (by kernel_rfl) ?_
    refine rw_p rfl rfl (y_move rfl) ?_
    refine rw_p rfl rfl (y_as (c := true) (y_eq rfl rfl) (by decide)) ?_
    replace hm := hm.withZ hO
    refine rw_done ?_
    refine gn_sq ?_
    refine HW_condT rfl rfl rfl ?_
    refine HW_text (.pure 0 (.pure 1 (.act 2 (.act 3 (.act 4 .done))))) (by kernel_rfl) ?_
    refine rw_p rfl rfl (y_load rfl sc70 (hm.nt 3 rfl) rfl) ?_
    refine rw_p rfl rfl (y_loadA (s := 5) (vs := [_, _, _, _, _]) rfl ag57 (hm.nt 0 rfl) rfl) ?_
    refine a_buildSlice (l := [_, _, _, _, _]) rfl rfl sl70 z57 rfl rfl rfl rfl rfl rfl rfl hm trivial fun m2 w hg_m2 hm hh => ?_
    refine a_append rfl rfl rfl rfl rfl rfl sl70 sl70 z57 rfl rfl (Rd.row0 (hm.get (k := 0) rfl)) rfl ha_s hm 5 rfl (by omega) (by omega) fun p_s cap_s g_s b_s w ha_s hm => ?_
    refine a_store rfl rfl rfl rfl sz70 rfl hm 4 rfl rfl fun w hm => ?_
    refine rw_done ?_
    refine gn_sq ?_
    refine HW_seq rfl ?_
    refine HW_text (.pure 0 .done) (by kernel_rfl) ?_
    refine rw_p rfl rfl (y_assign rfl) ?_
    refine rw_done ?_
    refine gn_sq ?_
    refine HW_ret rfl ?_
    refine toR (fin hret rfl (.tmp rfl .nil) .one ?_)
    refine ⟨rfl, p_s, cap_s, g_s, b_s, xs ++ [(⟨rr.sq, rr.id, rr.cu, rr.of, ⟨slp p_t cap_t 40 1, cap_t - 40, rr.bs⟩⟩ : RcV)], [(g_t, b_t)], (by rw [List.length_append]; exact ha_s.to (by rw [List.flatMap_append]; rfl)), (by rw [List.length_append]; exact (hm.pick [4, 5, 2] rfl)), by rw [hr, List.map_append]; rfl, fun y hy => ?_⟩
    rcases List.mem_append.1 hy with h9 | h9
    · exact .inl h9
    · rw [List.mem_singleton.1 h9]; exact .inr ⟨g_t, b_t, p_t, cap_t, al_t, by simp, ha_t, rfl, hal_t⟩

end Go.Proofs.YthailbggeafckaaGreat
