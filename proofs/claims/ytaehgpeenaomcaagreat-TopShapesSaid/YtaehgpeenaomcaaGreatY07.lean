/- Part 8 of the proof of TopShapes: Rec Nw Jn JnC JnD JnE Prp Dl DlB DlC. Conditions: the hypotheses of each theorem. -/
import Derived.Test.YtaehgpeenaomcaaGreatY06
import Derived.Test.YtaehgpeenaomcaaGreatChecked
set_option maxRecDepth 10000
set_option maxHeartbeats 4000000
set_option linter.unusedVariables false
set_option linter.unusedSimpArgs false
namespace Go.Proofs.YtaehgpeenaomcaaGreat
open Go Go.Cx
theorem k_openT(p:Option Addr)(cap:Nat)(bs:List UInt8)(w0:World)(hx:Rd w0 p (bs.flatMap Jk))(hle:bs.length≤cap)(hsp:cap≠0→∀ ad,p=some ad→ad.spot=none)(hl:bs.length≤70368744177664)(h:Pl.sumOk bs=true):C Tryz.prog 223 [.slice p bs.length cap] w0 fun v w'=>∃ q c g b,v=.tuple ⟨[.slice q (bs.take (bs.length-4)).length c,.bool true]⟩∧Acc 5 1 q (bs.take (bs.length-4)).length c ((bs.take (bs.length-4)).flatMap Jk) g b∧Mem w0 w' No [(g,b)]:=
 (k_open p cap bs w0 hx hle hsp hl).mono fun v w' hh=>by
  have h':(decide (4≤bs.length)&&decide ((bs.drop (bs.length-4))=Pl.leS (Pl.crc (bs.take (bs.length-4)))))=true:=h
  obtain ⟨q,c,g,b,h1,h2,h3⟩:=hh
  rw [LI h',h'] at h1
  rw [LI h'] at h2
  exact ⟨q,c,g,b,h1,h2,h3⟩
theorem k_openF(p:Option Addr)(cap:Nat)(bs:List UInt8)(w0:World)(hx:Rd w0 p (bs.flatMap Jk))(hle:bs.length≤cap)(hsp:cap≠0→∀ ad,p=some ad→ad.spot=none)(hl:bs.length≤70368744177664)(h:Pl.sumOk bs=false):C Tryz.prog 223 [.slice p bs.length cap] w0 fun v w'=>(∃ q c,v=.tuple ⟨[.slice q 0 c,.bool false]⟩)∧Ext No w0 w':=
 (k_open p cap bs w0 hx hle hsp hl).mono fun v w' hh=>by
  have h':(decide (4≤bs.length)&&decide ((bs.drop (bs.length-4))=Pl.leS (Pl.crc (bs.take (bs.length-4)))))=false:=h
  obtain ⟨q,c,g,b,h1,h2,h3⟩:=hh
  rw [LH (by rw [h']; simp),h'] at h1
  exact ⟨⟨q,c,h1⟩,h3.to⟩
theorem rec_encode(r:Pl.Rc)(p:Option Addr)(cap:Nat)(w0:World)(hx:Rd w0 p (r.bs.flatMap Jk))(hk:Pl.okRc r)(hl:r.bs.length≤70368744177600):C Tryz.prog 263 [.agg ⟨rcV r p r.bs.length cap⟩] w0 fun v w'=>∃ q c g b,v=.tuple ⟨[.slice q (if Pl.rright r=true then Pl.renc r else []).length c,.int .i64 (if Pl.rright r=true then 0 else 2)]⟩∧Acc 5 1 q (if Pl.rright r=true then Pl.renc r else []).length c ((if Pl.rright r=true then Pl.renc r else []).flatMap Jk) g b∧Mem w0 w' No [(g,b)]:=by
 have hv:∀ o,Pl.valid o 0=true↔0≤o∧o≤4611686018427387903:=fun o=>by rw [Pl.Xk]; omega
 obtain ⟨k1,k2,k3,k4⟩:=id hk
 simp only [Pl.I64] at k3 k4
 refine C_o Tryz.func263 fun κ _ Je Jc hm=>?_
 refine au 2 ?_
 refine bT hm fun m1 w hm=>?_
 refine au 10 ?_
 refine cA rfl rfl rfl (Qw _ _ _ (by omega) (by omega)) hm fun w hm=>?_
 refine au 4 ?_
 refine JK rfl rfl rfl (fun hc=>(Qe (cs:=[_,_]) z32.h ft32.h rfl rfl (J8 (gx hc rfl) QL) rfl rfl)) ?_
 refine J1 rfl rfl rfl (fun hc=>(J8 (gx hc rfl) QL)) go34 (fun hc=>(Qw _ _ _ (by omega) (by omega))) trivial fun w hE hh=>?_
 replace hm:=hm.ext hE
 refine au 5 ?_
 refine JK rfl rfl rfl (fun hc=>(y_len (gx hc rfl) rfl sl22.h)) ?_
 refine au 4 ?_
 refine cd (fun hc0=>?_) fun hc0=>?_
 ·
  simp only [bB,bE,dT] at hc0
  have hr:Pl.rright r=false:=by
   rw [Bool.eq_false_iff]; intro h9; rw [Pl.Q5] at h9
   rcases hc0 with (h8 | h8) | h8
   · rw [(hv r.cu).2 (by omega)] at h8; cases h8
   · rw [(hv r.of).2 (by omega)] at h8; cases h8
   · omega
  refine au 9 ?_
  exact ⟨none,0,0,.gap,by rw [hr]; rfl,by rw [hr]; exact .nil _ _ _ _,(hm.drop (List.nil_sublist _)).JP⟩
 ·
  simp only [bD,bF,dF] at hc0
  have v1:=(hv r.cu).1 hc0.1.1
  have v2:=(hv r.of).1 hc0.1.2
  have hr:Pl.rright r=true:=by rw [Pl.Q5]; omega
  have hfit:=Pl.flds_fit hk hr
  have hhl:=Pl.YO r
  have hbl:=Pl.rbody_len r
  refine HW_skip rfl ?_
  refine QV ?_
  refine Qb rfl ?_
  refine JT (.act 0 (.act 1 (.pure 2 (.pure 3 (.pure 4 (.pure 5 (.pure 6 (.pure 7 (.pure 8 (.pure 9 (.pure 10 (.pure 11 (.pure 12 (.pure 13 (.pure 14 (.pure 15 (.pure 16 (.pure 17 (.pure 18 (.pure 19 (.pure 20 (.act 21 (.act 22 (.pure 23 (.pure 24 (.pure 25 (.pure 26 (.pure 27 .done)))))))))))))))))))))))))))) (by kernel_rfl) ?_
  refine Jb (l:=[_,_,_,_]) rfl rfl sl22.h z5.h rfl rfl rfl rfl rfl rfl rfl hm trivial fun m2 w hg_m2 hm hh=>?_
  refine a_mkd rfl rfl rfl cb22 hm 0 rfl fun w hm=>?_
  refine au 8 ?_
  refine Ja rfl rfl (JX rfl is3 it55 (u64w (by omega) (by omega))) ?_
  refine au 3 ?_
  refine Ja rfl rfl (JX rfl is3 it55 (u64w (by omega) (by omega))) ?_
  refine au 4 ?_
  refine Ja rfl rfl (JX rfl is3 it55 (u64w (by omega) (by omega))) ?_
  refine au 1 ?_
  refine Jb (l:=[_,_,_,_,_,_,_,_,_,_]) rfl rfl sl267.h z265.h rfl rfl rfl rfl rfl rfl rfl hm trivial fun m3 w hg_m3 hm hh=>?_
  refine cT rfl rfl rfl (w_append _ _ Pl.magic _ _ (Pl.flds r) _ (Rd.mkd (hm.get (k:=1) rfl)) (Rd.JL (hm.get (k:=0) rfl)) (by decide) (by simp [Pl.flds]) hfit.2) fun v w hR=>?_
  obtain ⟨p_s,n_s,cap_s,g_s,b_s,rfl,ha_s,hmc⟩:=hR
  replace hm:=hm.Jt hmc
  obtain rfl:=ha_s.J0
  have hwo:Pl.wout Pl.magic (Pl.flds r)=Pl.magic++Pl.Vl (Pl.flds r):=by unfold Pl.wout; rw [hfit.1]; rfl
  have hwl:(Pl.wout Pl.magic (Pl.flds r)).length=40:=by rw [hwo]; exact hhl
  refine au 12 ?_
  refine Jy rfl rfl rfl rfl rfl rfl sl22.h sl22.h z5.h rfl (Zl r.bs) (hx.Jj hm.to) (J0 r.bs) ha_s hm 0 rfl (by rw [hwl]; omega) (by rw [hwl]; omega) fun p_s cap_s g_s b_s w ha_s hm=>?_
  replace ha_s:=ha_s.to (show _=(Pl.rbody r).flatMap Jk by simp only [hwo,Pl.rbody,Lh])
  have hn9:=ha_s.J0
  refine cT rfl rfl rfl (C.eqv (k_seal p_s cap_s (Pl.rbody r) _ (ha_s.rd hm 0 rfl) (by rw [← hn9]; exact ha_s.le) ha_s.spot (by omega)) (by rw [← hn9])) fun v w hR=>?_
  obtain ⟨p_z,cap_z,g_z,b_z,rfl,ha_z,hmc⟩:=hR
  have hg_z:b_z.real=true→_:=fun hr=>(hmc.fresh _ Lo hr).resolve_left id
  replace hm:=hm.Jt hmc
  refine au 6 ?_
  exact ⟨p_z,cap_z,g_z,b_z,by rw [hr]; rfl,by rw [hr]; exact ha_z,(hm.pick [0] rfl)⟩
theorem rec_decode(p:Option Addr)(cap:Nat)(bs:List UInt8)(w0:World)(hx:Rd w0 p (bs.flatMap Jk))(hle:bs.length≤cap)(hsp:cap≠0→∀ ad,p=some ad→ad.spot=none)(hl:bs.length≤70368744177664):C Tryz.prog 179 [.slice p bs.length cap] w0 fun v w'=>∃ (pa:Option Addr) (ca g:Nat) (b:Blk) (al:List UInt8),v=.tuple ⟨[.agg ⟨rcV ((Pl.rdec bs).getD Pl.rc0) (slp pa ca 40 1) ((Pl.rdec bs).getD Pl.rc0).bs.length (ca-40)⟩,.int .i64 (if (Pl.rdec bs).isSome=true then 0 else 19)]⟩∧Acc 5 1 pa al.length ca (al.flatMap Jk) g b∧al.drop 40=((Pl.rdec bs).getD Pl.rc0).bs∧Mem w0 w' No [(g,b)]:=by
 have hhl:(bs.take 40).length≤bs.length∧(bs.take 40).length≤40:=by rw [Lg]; omega
 refine C_o Tryz.func179 fun κ _ Je Jc hm=>?_
 refine au 2 ?_
 refine aT hm fun m1 w hm=>?_
 refine au 9 ?_
 refine Ja rfl rfl (y_v (JE (ln:=0) (hn:=(min bs.length 40)) rfl sl22.h rfl ⟨_,LM (fun x=>some (Value.int .i64 x)) (by omega)⟩ (by omega) (by omega) (fun h=>hsp (by omega))) (show _=Value.slice (slp p cap 0 1) (bs.take 40).length cap by rw [Lg,Nat.sub_zero,Nat.sub_zero,Nat.min_comm])) ?_
 refine cT rfl rfl rfl (w_new (slp p cap 0 1) cap (bs.take 40) _ ((hx.Jj hm.to).takeS hle) (by omega)) fun v w hR=>?_
 obtain ⟨r,p_rb,cap_rb,g_rb,b_rb,rfl,ha_rb,hmc⟩:=hR
 replace hm:=hm.Jt hmc
 refine Ja rfl rfl (J4 rfl) ?_
 refine Qc ?_
 refine QV ?_
 refine Qb rfl ?_
 refine Qb rfl ?_
 refine JT (.pure 0 (.act 1 (.act 2 (.act 3 (.pure 4 .done))))) (by kernel_rfl) ?_
 refine Ja rfl rfl (Jx rfl) ?_
 refine Jb (l:=[_,_,_,_]) rfl rfl sl22.h z5.h rfl rfl rfl rfl rfl rfl rfl hm trivial fun m2 w hg_m2 hm hh=>?_
 refine a_mkd rfl rfl rfl cb22 hm 0 rfl fun w hm=>?_
 refine cT rfl rfl rfl (w_expect r _ p_rb cap_rb (bs.take 40) ⟨0,0,0⟩ _ 4 Pl.magic 19 _ (hm.get (k:=1) rfl) (ha_rb.rd hm 2 rfl) (ha_rb.apart hm 2 1 rfl rfl rfl) ha_rb.le ha_rb.spot (LL _) (by omega) (Rd.mkd (hm.get (k:=0) rfl)) (fun _ ad e=>by cases e; exact hm.ne 0 1 rfl rfl rfl) (by decide) (by decide) (fun _ ad e=>by cases e; rfl)) fun v w hR=>?_
 obtain ⟨rfl,hmc⟩:=hR
 replace hm:=hm.Qv 1 rfl hmc
 obtain ⟨s1,e1⟩:∃ s_,(Pl.rexpect (bs.take 40) ⟨0,0,0⟩ Pl.magic 19).1=s_:=⟨_,rfl⟩
 rw [e1] at hm
 have a1:s1.at_≤(bs.take 40).length:=by rw [← e1]; exact Pl.rexpect_at (LL _)
 refine au 3 ?_
 refine cd (fun hc0=>?_) fun hc0=>?_
 ·
  simp only [bE] at hc0
  have hD:Pl.rdec bs=none:=by unfold Pl.rdec Pl.rd5; simp only; rw [LI (.inl hc0)]
  refine au 3 ?_
  refine st hm 3 fun w hm=>?_
  refine au 6 ?_
  exact ⟨none,0,0,.gap,[],by rw [hD]; rfl,.nil _ _ _ _,by rw [hD]; rfl,(hm.drop (List.nil_sublist _)).JP⟩
 ·
  simp only [bF] at hc0
  refine au 5 ?_
  refine cT rfl rfl rfl (w_uint r _ p_rb cap_rb (bs.take 40) s1 8 _ (hm.get (k:=1) rfl) (ha_rb.rd hm 2 rfl) (ha_rb.apart hm 2 1 rfl rfl rfl) ha_rb.le ha_rb.spot a1 (by omega) (by omega)) fun v w hR=>?_
  obtain ⟨rfl,hmc⟩:=hR
  replace hm:=hm.Qv 1 rfl hmc
  obtain ⟨s2,e2⟩:∃ s_,(Pl.ruint (bs.take 40) s1 8).1=s_:=⟨_,rfl⟩
  rw [e2] at hm
  have a2:s2.at_≤(bs.take 40).length:=by rw [← e2]; exact Pl.YF a1
  refine au 1 ?_
  refine cT rfl rfl rfl (w_uint r _ p_rb cap_rb (bs.take 40) s2 8 _ (hm.get (k:=1) rfl) (ha_rb.rd hm 2 rfl) (ha_rb.apart hm 2 1 rfl rfl rfl) ha_rb.le ha_rb.spot a2 (by omega) (by omega)) fun v w hR=>?_
  obtain ⟨rfl,hmc⟩:=hR
  replace hm:=hm.Qv 1 rfl hmc
  obtain ⟨s3,e3⟩:∃ s_,(Pl.ruint (bs.take 40) s2 8).1=s_:=⟨_,rfl⟩
  rw [e3] at hm
  have a3:s3.at_≤(bs.take 40).length:=by rw [← e3]; exact Pl.YF a2
  refine au 1 ?_
  refine cT rfl rfl rfl (w_length r _ p_rb cap_rb (bs.take 40) s3  _ (hm.get (k:=1) rfl) (ha_rb.rd hm 2 rfl) (ha_rb.apart hm 2 1 rfl rfl rfl) ha_rb.le ha_rb.spot a3 (by omega)) fun v w hR=>?_
  obtain ⟨rfl,hmc⟩:=hR
  replace hm:=hm.Qv 1 rfl hmc
  obtain ⟨s4,e4⟩:∃ s_,(Pl.rlength (bs.take 40) s3).1=s_:=⟨_,rfl⟩
  rw [e4] at hm
  have a4:s4.at_≤(bs.take 40).length:=by rw [← e4]; exact Pl.rlength_at a3
  refine au 1 ?_
  refine cT rfl rfl rfl (w_length r _ p_rb cap_rb (bs.take 40) s4  _ (hm.get (k:=1) rfl) (ha_rb.rd hm 2 rfl) (ha_rb.apart hm 2 1 rfl rfl rfl) ha_rb.le ha_rb.spot a4 (by omega)) fun v w hR=>?_
  obtain ⟨rfl,hmc⟩:=hR
  replace hm:=hm.Qv 1 rfl hmc
  obtain ⟨s5,e5⟩:∃ s_,(Pl.rlength (bs.take 40) s4).1=s_:=⟨_,rfl⟩
  rw [e5] at hm
  have a5:s5.at_≤(bs.take 40).length:=by rw [← e5]; exact Pl.rlength_at a4
  refine au 1 ?_
  refine aT hm fun m3 w hm=>?_
  refine st hm 0 fun w hm=>?_
  refine au 5 ?_
  refine cT rfl rfl rfl (w_uint r _ p_rb cap_rb (bs.take 40) s5 4 _ (hm.get (k:=2) rfl) (ha_rb.rd hm 3 rfl) (ha_rb.apart hm 3 2 rfl rfl rfl) ha_rb.le ha_rb.spot a5 (by omega) (by omega)) fun v w hR=>?_
  obtain ⟨rfl,hmc⟩:=hR
  replace hm:=hm.Qv 2 rfl hmc
  obtain ⟨s6,e6⟩:∃ s_,(Pl.ruint (bs.take 40) s5 4).1=s_:=⟨_,rfl⟩
  rw [e6] at hm
  have a6:s6.at_≤(bs.take 40).length:=by rw [← e6]; exact Pl.YF a5
  have hn4:=Pl.ruint4 (bs.take 40) s5
  have hD0:Pl.rdec bs=if (Pl.rexpect (bs.take 40) ⟨0,0,0⟩ Pl.magic 19).2=false∨¬ (s6.code=0∧s6.fat=0)∨(Pl.rsize (Pl.ruint (bs.take 40) s5 4).2)=0∨(bs.length:Int)<(Pl.rsize (Pl.ruint (bs.take 40) s5 4).2) then none else if Pl.sumOk (bs.take (Pl.rsize (Pl.ruint (bs.take 40) s5 4).2).toNat)=true then some ⟨(Pl.ruint (bs.take 40) s1 8).2,(Pl.ruint (bs.take 40) s2 8).2,(Pl.rlength (bs.take 40) s3).2,(Pl.rlength (bs.take 40) s4).2,((bs.take (Pl.rsize (Pl.ruint (bs.take 40) s5 4).2).toNat).take ((bs.take (Pl.rsize (Pl.ruint (bs.take 40) s5 4).2).toNat).length-4)).drop 40⟩ else none:=by unfold Pl.rdec Pl.rd5; simp only [e1,e2,e3,e4,e5,e6]
  refine Ja rfl rfl (JX rfl is55 it3 (Ql (by omega) (by omega))) ?_
  refine cA rfl rfl rfl (rec_size (Pl.ruint (bs.take 40) s5 4).2 _ (by simp only [Pl.I64]; omega)) hm fun w hm=>?_
  refine au 7 ?_
  refine cA rfl rfl rfl (w_fault r _ p_rb (bs.take 40).length cap_rb s6 _ (hm.get (k:=2) rfl)) hm fun w hm=>?_
  refine au 1 ?_
  refine Ja rfl rfl (y_ne2 rfl rfl iii46) ?_
  refine au 7 ?_
  refine JK rfl rfl rfl (fun hc=>(y_len (gx hc rfl) rfl sl22.h)) ?_
  refine au 4 ?_
  refine cd (fun hc1=>?_) fun hc1=>?_
  ·
   simp only [bB,dT] at hc1
   have hD:Pl.rdec bs=none:=by rw [hD0,LI (hc1.elim (fun h=>h.elim (fun h9=>.inr (.inl h9)) (fun h9=>.inr (.inr (.inl h9)))) (fun h9=>.inr (.inr (.inr h9))))]
   refine au 3 ?_
   refine st hm 4 fun w hm=>?_
   refine au 6 ?_
   exact ⟨none,0,0,.gap,[],by rw [hD]; rfl,.nil _ _ _ _,by rw [hD]; rfl,(hm.drop (List.nil_sublist _)).JP⟩
  ·
   simp only [bD,dF,Decidable.not_not] at hc1
   obtain ⟨⟨g1,g2⟩,g3⟩:=hc1
   rw [LH (by rw [hc0]; simp [g1,g2]; omega)] at hD0
   have hrz:(Pl.rsize (Pl.ruint (bs.take 40) s5 4).2)=0∨44≤(Pl.rsize (Pl.ruint (bs.take 40) s5 4).2):=by unfold Pl.rsize; split <;> omega
   have hNl:(bs.take (Pl.rsize (Pl.ruint (bs.take 40) s5 4).2).toNat).length=(Pl.rsize (Pl.ruint (bs.take 40) s5 4).2).toNat:=by rw [Lg]; omega
   refine au 3 ?_
   cases hso:Pl.sumOk (bs.take (Pl.rsize (Pl.ruint (bs.take 40) s5 4).2).toNat)
   ·
    have hD:Pl.rdec bs=none:=by rw [hD0,hso]; rfl
    refine au 3 ?_
    refine Ja rfl rfl (y_v (JE (ln:=0) (hn:=(Pl.rsize (Pl.ruint (bs.take 40) s5 4).2).toNat) rfl sl22.h rfl ⟨_,LM (fun x=>some (Value.int .i64 x)) (by omega)⟩ (by omega) (by omega) (fun h=>hsp (by omega))) (show _=Value.slice (slp p cap 0 1) (bs.take (Pl.rsize (Pl.ruint (bs.take 40) s5 4).2).toNat).length cap by rw [hNl,Nat.sub_zero,Nat.sub_zero])) ?_
    refine cT rfl rfl rfl (k_openF (slp p cap 0 1) cap (bs.take (Pl.rsize (Pl.ruint (bs.take 40) s5 4).2).toNat) _ ((hx.Jj hm.to).takeS hle) (by omega) (fun h ad e=>slp_spot0 hsp h e) (by omega) hso) fun v w hR=>?_
    obtain ⟨⟨q_,c_,rfl⟩,hE⟩:=hR
    replace hm:=hm.ext hE
    refine au 18 ?_
    refine st hm 4 fun w hm=>?_
    refine au 6 ?_
    exact ⟨none,0,0,.gap,[],by rw [hD]; rfl,.nil _ _ _ _,by rw [hD]; rfl,(hm.drop (List.nil_sublist _)).JP⟩
   ·
    rw [LI hso] at hD0
    have hsz:=hso
    unfold Pl.sumOk at hsz
    simp only [bA,dT] at hsz
    have hTl:((bs.take (Pl.rsize (Pl.ruint (bs.take 40) s5 4).2).toNat).take ((bs.take (Pl.rsize (Pl.ruint (bs.take 40) s5 4).2).toNat).length-4)).length=(Pl.rsize (Pl.ruint (bs.take 40) s5 4).2).toNat-4:=by rw [Lg]; omega
    refine au 3 ?_
    refine Ja rfl rfl (y_v (JE (ln:=0) (hn:=(Pl.rsize (Pl.ruint (bs.take 40) s5 4).2).toNat) rfl sl22.h rfl ⟨_,LM (fun x=>some (Value.int .i64 x)) (by omega)⟩ (by omega) (by omega) (fun h=>hsp (by omega))) (show _=Value.slice (slp p cap 0 1) (bs.take (Pl.rsize (Pl.ruint (bs.take 40) s5 4).2).toNat).length cap by rw [hNl,Nat.sub_zero,Nat.sub_zero])) ?_
    refine cT rfl rfl rfl (k_openT (slp p cap 0 1) cap (bs.take (Pl.rsize (Pl.ruint (bs.take 40) s5 4).2).toNat) _ ((hx.Jj hm.to).takeS hle) (by omega) (fun h ad e=>slp_spot0 hsp h e) (by omega) hso) fun v w hR=>?_
    obtain ⟨p_z,cap_z,g_z,b_z,rfl,ha_z,hmc⟩:=hR
    replace hm:=hm.Jt hmc
    have hzle:=ha_z.le
    refine au 20 ?_
    refine Ja rfl rfl (JE (ln:=40) (hn:=_) rfl sl22.h ⟨_,LM (fun x=>some (Value.int .i64 x)) (by omega)⟩ rfl (by omega) (by omega) (fun h=>ha_z.spot (by omega))) ?_
    refine au 1 ?_
    refine st hm 1 fun w hm=>?_
    refine au 5 ?_
    refine st hm 5 fun w hm=>?_
    refine Ja rfl rfl (J4 rfl) ?_
    refine Qc ?_
    refine QV ?_
    refine HW_ret rfl ?_
    refine toR (fin Je rfl (.cell rfl (Ju (vs:=[_,_,_,_,_]) ag225.h (hm.get (k:=5) rfl) rfl) (.tmp rfl .nil)) .more ?_)
    exact ⟨p_z,cap_z,g_z,b_z,(bs.take (Pl.rsize (Pl.ruint (bs.take 40) s5 4).2).toNat).take ((bs.take (Pl.rsize (Pl.ruint (bs.take 40) s5 4).2).toNat).length-4),by rw [hD0]; simp only [Option.getD_some,Option.isSome_some,if_true,rcV,Lm],ha_z,by rw [hD0]; rfl,(hm.pick [0] rfl)⟩
def zeroR:RcV:=⟨0,0,0,0,⟨none,0,[]⟩⟩
def QZ:List RcV→RcV
 | []=>zeroR
 | x::r=>r.foldl (fun b y=>if b.sq<y.sq then y else b) x
theorem bestR_one{xs:List RcV}{e:RcV}(h:xs[0]?=some e):QZ (xs.take 1)=e:=by
 cases xs with
 | nil=>simp at h
 | cons x r=>simp at h; subst h; rfl
theorem bestR_next{xs:List RcV}{i:Nat}{e:RcV}(h0:i≠0)(h:xs[i]?=some e):QZ (xs.take (i+1))=if (QZ (xs.take i)).sq<e.sq then e else QZ (xs.take i):=by
 cases xs with
 | nil=>simp at h
 | cons x r=>
  obtain ⟨k,rfl⟩:∃ k,i=k+1:=⟨i-1,by omega⟩
  rw [LW] at h
  rw [List.take_succ_cons,List.take_succ_cons,LC,h]
  simp only [QZ,Option.toList,List.foldl_append,List.foldl_cons,List.foldl_nil]
  rfl
theorem rec_number(x:RcV)(w0:World):C Tryz.prog 332 [.agg ⟨Xz x⟩] w0 fun v w'=>v=.int .u64 x.sq∧Ext No w0 w':=by
 refine C_o Tryz.func332 fun κ _ Je Jc hm=>?_
 refine au 2 ?_
 refine bT hm fun m1 w hm=>?_
 refine au 12 ?_
 exact ⟨rfl,hm.to⟩
theorem rec_greatest(p:Option Addr)(cap:Nat)(xs:List RcV)(w0:World)(hx:Rd w0 p (xs.flatMap Xz))(hl:xs.length≤9223372036854775807):C Tryz.prog 224 [.slice p xs.length cap] w0 fun v w'=>v=.tuple ⟨[.agg ⟨Xz (QZ xs)⟩,.bool (decide (0<xs.length))]⟩∧Ext No w0 w':=by
 refine C_o Tryz.func224 fun κ _ Je Jc hm=>?_
 refine au 2 ?_
 refine aT hm fun m1 w hm=>?_
 refine au 5 ?_
 refine aT hm fun m2 w hm=>?_
 refine au 11 ?_
 refine Jg (ι:=Nat) rfl (ks:=[0,2,3,4,7,8]) (.cons rfl (.cons rfl (.cons rfl (.cons rfl (.cons rfl (.cons rfl .nil)))))) (fun x=>[(9,.int .i64 x)]) (fun x w=>Mem w0 w No [(m2,.row 225 (Xz (QZ (xs.take x)))),(m1,.row 225 [.int .u64 0,.int .u64 0,.int .i64 0,.int .i64 0,.slice none 0 0])]∧x≤xs.length) (fun x=>xs.length-x) 0 (⟨(hm.pick [0,1] rfl),LL _⟩) ⟨rfl,trivial⟩ (fun x w hM=>?_)
 obtain ⟨hm,hk⟩:=hM
 refine au 6 ?_
 refine cd (fun hc0=>?_) fun hc0=>?_
 ·
  simp only [dT] at hc0
  obtain ⟨e,hi⟩:∃ y_,xs[x]?=some y_:=⟨_,La (by omega)⟩
  obtain ⟨qb,qo,rfl⟩:=hx.atI Vn (by decide) hi
  refine au 8 ?_
  refine Ja rfl rfl (JU rfl ag225.h (hx.Jj hm.to).nt Vn hi) ?_
  refine aT hm fun m3 w hm=>?_
  refine au 1 ?_
  refine st hm 0 fun w hm=>?_
  refine au 3 ?_
  by_cases hx0:x=0
  ·
   have hbn:(QZ (xs.take (x+1)))=e:=by subst hx0; exact bestR_one hi
   refine dw [0,3,6,9,12,18,21,16,2,25,27,30] hm fun w hw hm0 hh hm=>?_
   refine au 1 ?_
   refine Ja rfl rfl (JA (c:=true) (V3 rfl rfl) (LQ (by omega))) ?_
   refine au 15 ?_
   refine st hm 1 fun w hm=>?_
   refine au 7 ?_
   refine next (x+1) (by omega) ⟨?_,by omega⟩ ⟨nx x,rfl,rfl,rfl,rfl,rfl,rfl,trivial⟩
   rw [hbn]
   exact (hm.pick [1,2] rfl)
  ·
   refine dw [0,3,6,9,12,18,21,16,2,25,27,30] hm fun w hw hm0 hh hm=>?_
   refine au 1 ?_
   refine Ja rfl rfl (JA (c:=false) (V3 rfl rfl) (LN (by omega))) ?_
   refine au 2 ?_
   refine Ja rfl rfl (y_ifaceS rfl (by kernel_rfl)) ?_
   refine au 1 ?_
   refine Ja rfl rfl (y_ifaceS rfl (by kernel_rfl)) ?_
   refine a_invoke rfl rfl rfl rfl (by kernel_rfl) go332 (rec_number e _) fun v w hR=>?_
   obtain ⟨rfl,hE⟩:=hR
   refine ⟨hh.ext hE,?_⟩
   replace hm:=hm.ext hE
   replace hh:=hh.ext hE
   refine au 1 ?_
   refine a_invoke rfl rfl rfl rfl (by kernel_rfl) go332 (rec_number (QZ (xs.take x)) _) fun v w hR=>?_
   obtain ⟨rfl,hE⟩:=hR
   refine ⟨trivial,?_⟩
   replace hm:=hm.ext hE
   refine au 4 ?_
   refine cd (fun hc1=>?_) fun hc1=>?_
   ·
    simp only [dT] at hc1
    have hbn:(QZ (xs.take (x+1)))=e:=by rw [bestR_next hx0 hi,LI hc1]
    refine au 2 ?_
    refine st hm 1 fun w hm=>?_
    refine au 7 ?_
    refine next (x+1) (by omega) ⟨?_,by omega⟩ ⟨nx x,rfl,rfl,rfl,rfl,rfl,rfl,trivial⟩
    rw [hbn]
    exact (hm.pick [1,2] rfl)
   ·
    simp only [dF] at hc1
    have hbn:(QZ (xs.take (x+1)))=(QZ (xs.take x)):=by rw [bestR_next hx0 hi,LH hc1]
    refine au 7 ?_
    refine next (x+1) (by omega) ⟨?_,by omega⟩ ⟨nx x,rfl,rfl,rfl,rfl,rfl,rfl,trivial⟩
    rw [hbn]
    exact (hm.pick [1,2] rfl)
 ·
  simp only [dF] at hc0
  have hke:x=xs.length:=by omega
  rw [hke,Lv] at hm
  refine au 11 ?_
  refine st hm 1 fun w hm=>?_
  refine au 5 ?_
  exact ⟨by simp; rfl,hm.to⟩
theorem idxf_r(p:Option Addr)(cap:Nat)(xs:List RcV)(fi:FuncId)(l2:List Value)(pred:RcV→Bool)(w0:World)(hx:Rd w0 p (xs.flatMap Xz))(hlen:xs.length≤9223372036854775807)(hg:JH Tryz.prog fi=true)(hf:∀ x w1,x∈xs→Ext No w0 w1→C Tryz.prog fi (.agg ⟨Xz x⟩::l2) w1 fun v w2=>v=.bool (pred x)∧Ext No w1 w2):C Tryz.prog 258 [.slice p xs.length cap,.func (.func fi) #[] ⟨l2⟩] w0 fun v w'=>v=.int .i64 (Pl.idx pred xs)∧Ext No w0 w':=by
 refine C_o Tryz.func258 fun κ _ Je Jc hm=>?_
 refine au 14 ?_
 refine Jg (ι:=Nat) rfl (ks:=[0,1,7]) (.cons rfl (.cons rfl (.cons rfl .nil))) (fun k=>[(8,.int .i64 k)]) (fun k w=>Mem w0 w No []∧k≤xs.length∧∀ (j:Nat) y,j<k→xs[j]?=some y→pred y=false) (fun k=>xs.length-k) 0 (⟨hm,LL _,fun _ _ h=>absurd h (Nat.not_lt_zero _)⟩) ⟨rfl,trivial⟩ (fun k w hM=>?_)
 obtain ⟨hm,hk,hno⟩:=hM
 refine au 6 ?_
 refine cd (fun hc0=>?_) fun hc0=>?_
 ·
  simp only [dT] at hc0
  obtain ⟨x,hi⟩:∃ y_,xs[k]?=some y_:=⟨_,La (by omega)⟩
  obtain ⟨qb,qo,rfl⟩:=hx.atI Vn (by decide) hi
  refine au 16 ?_
  refine Ja rfl rfl (JU rfl ag225.h (hx.Jj hm.to).nt Vn hi) ?_
  refine Qf rfl rfl rfl rfl hg (hf x _ (Ld hi) hm.to) fun v w hR=>?_
  obtain ⟨rfl,hE⟩:=hR
  refine ⟨trivial,?_⟩
  replace hm:=hm.ext hE
  refine au 2 ?_
  refine cd (fun hc1=>?_) fun hc1=>?_
  ·
   refine au 13 ?_
   exact ⟨by rw [Pl.X8 hi hc1 hno],hm.to⟩
  ·
   refine au 7 ?_
   refine next (k+1) (by omega) ⟨hm,by omega,fun j y hj hy=>?_⟩ ⟨nx k,rfl,rfl,rfl,trivial⟩
   rcases L7 j k with h | h
   · exact hno j y h hy
   · obtain rfl:j=k:=by omega
     rw [hi] at hy; cases hy; exact hc1
 ·
  have hk:k=xs.length:=by simp at hc0; omega
  subst hk
  refine au 12 ?_
  exact ⟨by rw [Pl.YN hno],hm.to⟩
theorem rec_newest1(x:RcV)(k:Int)(m:Nat)(w0:World)(hk:w0.heap[m]?=some (Blk.row 55 [.int .u64 k]).Jd):C Tryz.prog 227 [.agg ⟨Xz x⟩,.pointer (some ⟨m,0,none⟩)] w0 fun v w'=>v=.bool (decide (x.id≠k))∧Ext No w0 w':=by
 refine C_o Tryz.func227 fun κ _ Je Jc hm=>?_
 refine au 2 ?_
 refine bT hm fun m1 w hm=>?_
 refine au 14 ?_
 exact ⟨by simp,hm.to⟩
theorem oneRc(l:List RcV):(l.flatMap Xz).all (·.oneCell')=true:=by
 rw [List.all_flatMap]
 exact List.all_eq_true.2 fun x _=>rfl
theorem lenRc(l:List RcV):(l.flatMap Xz).length=l.length*5:=by
 induction l with
 | nil=>rfl
 | cons x r ih=>rw [Lk,Lc,ih,Li]; show 5+_=_; omega
theorem nilRc{xs:List RcV}(h:xs.flatMap Xz=[]):xs=[]:=by
 cases xs with
 | nil=>rfl
 | cons x r=>simp [Xz] at h
theorem clone_r(p:Option Addr)(cap:Nat)(xs:List RcV)(w0:World)(hx:Rd w0 p (xs.flatMap Xz))(hlen:xs.length*56≤140737488355328):C Tryz.prog 226 [.slice p xs.length cap] w0 fun v w'=>∃ q c g b,v=.slice q xs.length c∧Acc 225 5 q xs.length c (xs.flatMap Xz) g b∧Mem w0 w' No [(g,b)]:=by
 refine C_o Tryz.func226 fun κ _ Je Jc hm=>?_
 refine au 9 ?_
 refine Ja rfl rfl (y_snil rfl rfl sb273) ?_
 refine au 2 ?_
 refine cd (fun hc0=>?_) fun hc0=>?_
 ·
  obtain rfl:p=none:=by simpa using hc0
  obtain rfl:=nilRc hx
  refine au 8 ?_
  exact ⟨none,0,0,.gap,rfl,.nil _ _ _ _,hm.JP⟩
 ·
  refine au 4 ?_
  refine Jb (l:=[]) rfl rfl sl273.h z225.h rfl rfl rfl rfl rfl rfl rfl hm trivial fun m1 w hg_m1 hm hh=>?_
  refine au 1 ?_
  refine Jy rfl rfl rfl rfl rfl rfl sl273.h sl273.h z225.h rfl (oneRc xs) (hx.Jj hm.to) (lenRc xs) (Acc.row rfl) hm 0 rfl (by omega) (by omega) fun p_s1 cap_s1 g_s1 b_s1 w ha_s1 hm=>?_
  refine au 5 ?_
  exact ⟨p_s1,cap_s1,g_s1,b_s1,by rw [LV],by simpa only [LV,L4] using ha_s1,hm⟩
theorem del_r(p_s:Option Addr)(cap_s:Nat)(xs:List RcV)(g_s:Nat)(b_s:Blk)(fi:FuncId)(l2:List Value)(pred:RcV→Bool)(w0:World)(ha_s:Acc 225 5 p_s xs.length cap_s (xs.flatMap Xz) g_s b_s)(hb_s:b_s.real=true→w0.heap[g_s]?=some b_s.Jd)(hlen:xs.length≤4611686018427387903)(hg:JH Tryz.prog fi=true)(hf:∀ x w1,Ext (fun k=>k=g_s∧b_s.real=true) w0 w1→C Tryz.prog fi (.agg ⟨Xz x⟩::l2) w1 fun v w2=>v=.bool (pred x)∧Ext No w1 w2):C Tryz.prog 225 [.slice p_s xs.length cap_s,.func (.func fi) #[] ⟨l2⟩] w0 fun v w'=>∃ b',v=.slice p_s (xs.filter fun x=>!pred x).length cap_s∧Acc 225 5 p_s (xs.filter fun x=>!pred x).length cap_s ((xs.filter fun x=>!pred x).flatMap Xz) g_s b'∧Mem w0 w' (fun k=>k=g_s∧b_s.real=true) [(g_s,b')]:=by
 refine Vk Tryz.func225 rfl rfl rfl fun κ _ Je Jc=>?_
 have hm:=Mem.startB hb_s
 refine au 9 ?_
 refine cA rfl rfl rfl (idxf_r p_s cap_s xs fi l2 pred _ (ha_s.rd hm 0 rfl) (by omega) hg (fun x w1 hx hE=>hf x w1 (hm.to.trans hE.weak))) hm fun w hm=>?_
 refine au 10 ?_
 refine cd (fun hc0=>?_) fun hc0=>?_
 ·
  simp only [dT] at hc0
  have hall:(xs.filter fun x=>!pred x)=xs:=by rcases X9 pred xs with ⟨_,h⟩ | ⟨i,x,h,_⟩; exact h; omega
  refine au 9 ?_
  exact ⟨b_s,by rw [hall],by rw [hall]; exact ha_s,(hm.pick [0] rfl)⟩
 ·
  simp only [dF] at hc0
  obtain ⟨i0,x0,hi0,hx0,hp0,ht0⟩:=(X9 pred xs).resolve_left (fun h=>hc0 h.1)
  have hl0:=(Le.1 hx0).1
  rw [hi0]
  obtain rfl:=ha_s.ptr (by omega)
  have hI0:=DelI.start hx0 hp0 ht0
  refine au 11 ?_
  refine Jg (ι:=Nat×Nat×Blk×List RcV) rfl (ks:=[0,1,4]) (.cons rfl (.cons rfl (.cons rfl .nil))) (fun x=>[(6,.int .i64 x.1),(5,.int .i64 x.2.1)]) (fun x w=>Mem w0 w (fun k=>k=g_s∧b_s.real=true) [(g_s,x.2.2.1)]∧Acc 225 5 (some ⟨g_s,0,none⟩) xs.length cap_s (x.2.2.2.flatMap Xz) g_s x.2.2.1∧DelI pred xs x.1 x.2.1 x.2.2.2) (fun x=>xs.length-x.1) (i0+1,i0,b_s,xs) (⟨(hm.pick [0] rfl),ha_s,hI0⟩) ⟨nx i0,rfl,trivial⟩ (fun x w hM=>?_)
  obtain ⟨hm,ha_s,hI⟩:=hM
  refine au 9 ?_
  refine cd (fun hc1=>?_) fun hc1=>?_
  ·
   simp only [dT] at hc1
   have hzl:=hI.len
   have hlt:=hI.lt
   obtain ⟨e,hi⟩:∃ y_,x.2.2.2[x.1]?=some y_:=⟨_,La (by omega)⟩
   refine au 9 ?_
   refine Ja rfl rfl (JU rfl ag225.h (ha_s.rd hm 0 rfl).nt Vn hi) ?_
   refine aT hm fun m1 w hm=>?_
   refine st hm 0 fun w hm=>?_
   refine au 6 ?_
   refine Qf rfl rfl rfl rfl hg (hf e _ hm.to) fun v w hR=>?_
   obtain ⟨rfl,hE⟩:=hR
   refine ⟨trivial,?_⟩
   replace hm:=hm.ext hE
   refine au 3 ?_
   refine cd (fun hc2=>?_) fun hc2=>?_
   ·
    simp only [bE] at hc2
    refine au 6 ?_
    refine a_storeE rfl rfl rfl rfl sz225 rfl rfl ha_s (by omega) hm 1 rfl fun b_s w ha_s hm=>?_
    replace ha_s:=ha_s.to (upds_fm Vn (by omega) e)
    refine au 14 ?_
    refine next (x.1+1,x.2.1+1,b_s,x.2.2.2.set x.2.1 e) (by simp only; omega) ⟨(hm.pick [1] rfl),ha_s,hI.put hi hc2⟩ ⟨nx x.1,nx x.2.1,rfl,rfl,rfl,trivial⟩
   ·
    simp only [bF] at hc2
    refine au 8 ?_
    refine next (x.1+1,x.2.1,x.2.2.1,x.2.2.2) (by simp only; omega) ⟨(hm.pick [1] rfl),ha_s,hI.skip hi hc2⟩ ⟨nx x.1,rfl,rfl,rfl,rfl,trivial⟩
  ·
   simp only [dF] at hc1
   obtain ⟨hd1,hd2,hd3⟩:=hI.done (by omega)
   refine au 9 ?_
   refine Ja rfl rfl (JE (ln:=x.2.1) (hn:=xs.length) rfl sl273.h ⟨_,rfl⟩ rfl (by omega) (by have:=ha_s.le; omega) (fun _ ad e=>by cases e; rfl)) ?_
   refine a_clearL rfl rfl sl273.h z225.h rfl (by decide) rfl (by omega) ha_s hm 0 rfl fun b_s w ha_s hm=>?_
   refine au 6 ?_
   refine Ja rfl rfl (JE (ln:=0) (hn:=x.2.1) rfl sl273.h rfl ⟨_,rfl⟩ (by omega) (by have:=ha_s.le; omega) (fun _ ad e=>by cases e; rfl)) ?_
   refine au 5 ?_
   exact ⟨b_s,by rw [hd2,XW (fun a e=>by cases e; rfl)]; rfl,by rw [hd2]; exact (ha_s.head hd3).to ((Y1 _ _ _).trans ((take_fm Vn _ _).trans (by rw [hd1]))),(hm.pick [0] rfl)⟩
theorem bestR_mem:∀ {F:List RcV},F≠[]→QZ F∈F:=by
 intro F h
 cases F with
 | nil=>exact absurd rfl h
 | cons x r=>
  show r.foldl _ x∈_
  have:∀ (r:List RcV) (b:RcV),r.foldl (fun b y=>if b.sq<y.sq then y else b) b=b∨r.foldl (fun b y=>if b.sq<y.sq then y else b) b∈r:=by
   intro r
   induction r with
   | nil=>intro b; exact .inl rfl
   | cons y r ih=>
    intro b
    rw [List.foldl_cons]
    rcases ih (if b.sq<y.sq then y else b) with h1 | h1
    · rw [h1]; split
      · exact .inr (by simp)
      · exact .inl rfl
    · exact .inr (LX _ h1)
  rcases this r x with h1 | h1
  · rw [h1]; simp
  · exact LX _ h1
theorem bestR_rd{xs:List RcV}{w:World}{k:Int}(hd:∀ x∈xs,Rd w x.d.p (x.d.bs.flatMap Jk)∧x.d.bs.length≤140737488355328):Rd w (QZ (xs.filter fun x=>decide (x.id=k))).d.p ((QZ (xs.filter fun x=>decide (x.id=k))).d.bs.flatMap Jk)∧(QZ (xs.filter fun x=>decide (x.id=k))).d.bs.length≤140737488355328:=by
 by_cases h:(xs.filter fun x=>decide (x.id=k))=[]
 · rw [h]; exact ⟨rfl,by decide⟩
 · exact hd _ (L5.1 (bestR_mem h)).1
theorem rec_newest(k:Int)(p:Option Addr)(cap:Nat)(xs:List RcV)(w0:World)(hx:Rd w0 p (xs.flatMap Xz))(hlen:xs.length≤1048576)(hd:∀ x∈xs,Rd w0 x.d.p (x.d.bs.flatMap Jk)∧x.d.bs.length≤140737488355328):C Tryz.prog 180 [.int .u64 k,.slice p xs.length cap] w0 fun v w'=>∃ q c g b,v=.tuple ⟨[.agg ⟨rcV (QZ (xs.filter fun x=>decide (x.id=k))).rc q (QZ (xs.filter fun x=>decide (x.id=k))).rc.bs.length c⟩,.bool (decide (0<(xs.filter fun x=>decide (x.id=k)).length))]⟩∧Acc 5 1 q (QZ (xs.filter fun x=>decide (x.id=k))).rc.bs.length c ((QZ (xs.filter fun x=>decide (x.id=k))).rc.bs.flatMap Jk) g b∧Mem w0 w' No [(g,b)]:=by
 have hfe:(xs.filter fun x=>!(fun x=>decide (x.id≠k)) x)=(xs.filter fun x=>decide (x.id=k)):=by congr 1; funext x; by_cases h:x.id=k <;> simp [h]
 obtain ⟨hBd,hBl⟩:=bestR_rd (k:=k) hd
 have hfl:(xs.filter fun x=>decide (x.id=k)).length≤xs.length:=List.length_filter_le _ _
 refine C_o Tryz.func180 fun κ _ Je Jc hm=>?_
 refine au 2 ?_
 refine bT hm fun m1 w hm=>?_
 refine aT hm fun m2 w hm=>?_
 refine au 6 ?_
 refine cT rfl rfl rfl (clone_r p cap xs _ (hx.Jj hm.to) (by omega)) fun v w hR=>?_
 obtain ⟨p_s,cap_s,g_s,b_s,rfl,ha_s,hmc⟩:=hR
 have hg_s:b_s.real=true→_:=fun hr=>(hmc.fresh _ Lo hr).resolve_left id
 replace hm:=hm.Jt hmc
 refine au 1 ?_
 refine cT rfl rfl rfl (del_r p_s cap_s xs g_s b_s 227 [.pointer (some ⟨m1,0,none⟩)] (fun x=>decide (x.id≠k)) _ ha_s (fun hr=>hm.getR (k:=0) rfl hr) (by omega) go227 (fun x w1 hE=>rec_newest1 x k m1 w1 ((hE.same m1 ((Lb.1 (hm.get (k:=2) rfl)).1) (hm.neB 2 0 rfl rfl rfl)).trans (hm.get (k:=2) rfl)))) fun v w hR=>?_
 obtain ⟨b_s,rfl,ha_s,hmc⟩:=hR
 replace hm:=hm.callB 0 rfl hmc
 simp only [hfe] at ha_s ⊢
 refine cA rfl rfl rfl (rec_greatest p_s cap_s (xs.filter fun x=>decide (x.id=k)) _ (ha_s.rd hm 0 rfl) (by omega)) hm fun w hm=>?_
 refine au 3 ?_
 refine aT hm fun m3 w hm=>?_
 refine st hm 0 fun w hm=>?_
 refine au 7 ?_
 refine cT rfl rfl rfl (V0 (QZ (xs.filter fun x=>decide (x.id=k))).d.p (QZ (xs.filter fun x=>decide (x.id=k))).d.cap (QZ (xs.filter fun x=>decide (x.id=k))).d.bs _ (hBd.Jj hm.to) (by omega)) fun v w hR=>?_
 obtain ⟨p_z,cap_z,g_z,b_z,rfl,ha_z,hmc⟩:=hR
 have hg_z:b_z.real=true→_:=fun hr=>(hmc.fresh _ Lo hr).resolve_left id
 replace hm:=hm.Jt hmc
 refine au 1 ?_
 refine st hm 1 fun w hm=>?_
 refine au 6 ?_
 refine st hm 3 fun w hm=>?_
 refine au 5 ?_
 exact ⟨p_z,cap_z,g_z,b_z,rfl,ha_z,(hm.pick [0] rfl)⟩
def jrow(pm:Value)(f b k:Int)(S:Pl.Jn)(p:Option Addr)(c:Nat):List Value:=
 [pm,.int .i64 f,.int .i64 b,.int .u64 k,.int .u64 S.nx,.int .u64 S.la.sq,.int .u64 S.la.id,.int .i64 S.la.cu,.int .i64 S.la.of,.slice p S.la.bs.length c,.bool S.has]
def JZ(TJ U8 m:Nat)(f b k:Int)(S:Pl.Jn)(j:Nat)(Zj:List (Nat×Blk)):Prop:=
 ∃ p c g bb,Zj=[(j,.row TJ (jrow (.pointer (some ⟨m,0,none⟩)) f b k S p c)),(g,bb)]∧Acc U8 1 p S.la.bs.length c (S.la.bs.flatMap Jk) g bb
def HRd(B:List (Nat×Blk))(U8:Nat)(s:SB):Prop:=∃ (g:Nat) (b:Blk) (p:Option Addr) (c:Nat) (al:List UInt8),(g,b)∈B∧Acc U8 1 p al.length c (al.flatMap Jk) g b∧s.p=slp p c 40 1∧al.drop 40=s.bs
theorem HRd.mono{B C:List (Nat×Blk)}{U8:Nat}{s:SB}(h:HRd B U8 s)(hs:∀ e,e∈B→e∈C):HRd C U8 s:=by
 obtain ⟨g,b,p,c,al,h1,h2⟩:=h
 exact ⟨g,b,p,c,al,hs _ h1,h2⟩
theorem HRd.rd{B L:List (Nat×Blk)}{U8:Nat}{s:SB}{w0 w:World}{X:Bs}(h:HRd B U8 s)(hm:Mem w0 w X L)(hs:∀ e,e∈B→e∈L):Rd w s.p (s.bs.flatMap Jk):=by
 obtain ⟨g,b,p,c,al,h1,h2,h3,h4⟩:=h
 have h5:=(h2.rdM hm (hs _ h1)).dropB (l:=40) h2.le
 rw [h4] at h5
 rw [h3]
 exact h5
theorem bag2{q1 q2 a b c:Nat×Blk}{M B:List (Nat×Blk)}:([q1,q2]++M++([a,b,c]++B)).Perm (q1::q2::a::b::c::(M++B)):=by
 rw [Lp]
 exact ((List.perm_append_comm_assoc M [a,b,c] B).append_left [q1,q2])
theorem best_rc:∀ (l:List RcV) (x:RcV),(l.foldl (fun b y=>if b.sq<y.sq then y else b) x).rc=(l.map RcV.rc).foldl (fun b y=>if b.sq<y.sq then y else b) x.rc
 | [],x=>rfl
 | y::r,x=>by
  rw [List.foldl_cons,Ka,List.foldl_cons,best_rc r]
  congr 1
  show (if x.sq<y.sq then y else x).rc=if x.sq<y.sq then y.rc else x.rc
  split <;> rfl
theorem bestR_rc(l:List RcV):(QZ l).rc=Pl.bestC (l.map RcV.rc):=by
 cases l with
 | nil=>rfl
 | cons x r=>exact best_rc r x
theorem filt_rc(k:Int)(l:List RcV):(l.filter fun x=>decide (x.id=k)).map RcV.rc=(l.map RcV.rc).filter fun r=>decide (r.id=k):=by
 rw [List.filter_map]; rfl
theorem rec_encT(r:Pl.Rc)(p:Option Addr)(cap:Nat)(w0:World)(hx:Rd w0 p (r.bs.flatMap Jk))(hk:Pl.okRc r)(hl:r.bs.length≤70368744177600)(hr:Pl.rright r=true):C Tryz.prog 263 [.agg ⟨rcV r p r.bs.length cap⟩] w0 fun v w'=>∃ q c g b,v=.tuple ⟨[.slice q (Pl.renc r).length c,.int .i64 0]⟩∧Acc 5 1 q (Pl.renc r).length c ((Pl.renc r).flatMap Jk) g b∧Mem w0 w' No [(g,b)]:=
 (rec_encode r p cap w0 hx hk hl).mono fun v w' h=>by
  simp only [hr,if_true] at h
  exact h
theorem rec_encF(r:Pl.Rc)(p:Option Addr)(cap:Nat)(w0:World)(hx:Rd w0 p (r.bs.flatMap Jk))(hk:Pl.okRc r)(hl:r.bs.length≤70368744177600)(hr:Pl.rright r=false):C Tryz.prog 263 [.agg ⟨rcV r p r.bs.length cap⟩] w0 fun v w'=>(∃ q c,v=.tuple ⟨[.slice q 0 c,.int .i64 2]⟩)∧Ext No w0 w':=
 (rec_encode r p cap w0 hx hk hl).mono fun v w' h=>by
  simp only [hr,L0,if_false] at h
  obtain ⟨q,c,g,b,h1,_,h3⟩:=h
  exact ⟨⟨q,c,h1⟩,h3.to⟩
theorem rec_decT(r:Pl.Rc)(p:Option Addr)(cap:Nat)(bs:List UInt8)(w0:World)(hx:Rd w0 p (bs.flatMap Jk))(hle:bs.length≤cap)(hsp:cap≠0→∀ ad,p=some ad→ad.spot=none)(hl:bs.length≤70368744177664)(hr:Pl.rdec bs=some r):C Tryz.prog 179 [.slice p bs.length cap] w0 fun v w'=>∃ (pa:Option Addr) (ca g:Nat) (b:Blk) (al:List UInt8),v=.tuple ⟨[.agg ⟨rcV r (slp pa ca 40 1) r.bs.length (ca-40)⟩,.int .i64 0]⟩∧Acc 5 1 pa al.length ca (al.flatMap Jk) g b∧al.drop 40=r.bs∧Mem w0 w' No [(g,b)]:=
 (rec_decode p cap bs w0 hx hle hsp hl).mono fun v w' h=>by
  simp only [hr,Option.getD_some,Option.isSome_some,if_true] at h
  exact h
theorem rec_decF(p:Option Addr)(cap:Nat)(bs:List UInt8)(w0:World)(hx:Rd w0 p (bs.flatMap Jk))(hle:bs.length≤cap)(hsp:cap≠0→∀ ad,p=some ad→ad.spot=none)(hl:bs.length≤70368744177664)(hr:Pl.rdec bs=none):C Tryz.prog 179 [.slice p bs.length cap] w0 fun v w'=>(∃ q c,v=.tuple ⟨[.agg ⟨rcV Pl.rc0 q 0 c⟩,.int .i64 19]⟩)∧Ext No w0 w':=
 (rec_decode p cap bs w0 hx hle hsp hl).mono fun v w' h=>by
  simp only [hr,Option.getD_none,Option.isSome_none,L0,if_false] at h
  obtain ⟨q,c,g,b,al,h1,_,_,h3⟩:=h
  exact ⟨⟨_,_,h1⟩,h3.to⟩
theorem jr_length(D:Pl.Dv)(m:Nat)(Z:List (Nat×Blk))(w0:World)(hZ:Jr w0 Z)(hz:JV 112 258 5 D m Z)(f b:Int)(hb:Pl.I64 b):C Tryz.prog 216 [.agg ⟨[.pointer (some ⟨m,0,none⟩),.int .i64 f,.int .i64 b]⟩] w0 fun v w'=>v=.int .i64 (Pl.slot (D.sz:Int) b)∧Ext No w0 w':=by
 have hok:=hz.ok
 have o1:=hok.sz
 have o4:=hok.max
 have o3:=hok.cnt
 have o5:D.cnt≤D.cnt*D.sz:=Lu _ o1
 have o7:D.sz≤D.cnt*D.sz:=L1 _ o3
 refine C_o Tryz.func216 fun κ _ Je Jc hm=>?_
 refine au 2 ?_
 refine bT hm fun m1 w hm=>?_
 refine au 4 ?_
 refine dw [0,3,9,12,7,2,16,18] hm fun w hw hm0 hh hm=>?_
 refine au 4 ?_
 refine cB rfl rfl rfl (Xt D m Z _ (hZ.ext hm.to) hz) hm hh fun w hm hh=>?_
 refine au 1 ?_
 refine cA rfl rfl rfl (j_slot (D.sz:Int) b _ (by simp only [Pl.I64]; omega) hb) hm fun w hm=>?_
 refine au 5 ?_
 exact ⟨rfl,hm.to⟩
theorem jr_slot(D:Pl.Dv)(m:Nat)(Z:List (Nat×Blk))(w0:World)(hZ:Jr w0 Z)(hz:JV 112 258 5 D m Z)(f N:Nat)(b:Int)(hb:Pl.I64 b)(hN:Pl.slot (D.sz:Int) b=(N:Int))(i:Nat)(hin:f+i*N+N≤D.cnt):C Tryz.prog 178 [.agg ⟨[.pointer (some ⟨m,0,none⟩),.int .i64 (f:Int),.int .i64 b]⟩,.int .i64 (i:Int)] w0 fun v w'=>v=.agg ⟨[.int .i64 (((f+i*N)*D.sz:Nat):Int),.int .i64 ((N*D.sz:Nat):Int)]⟩∧Ext No w0 w':=by
 have hok:=hz.ok
 have o1:=hok.sz
 have o4:=hok.max
 have o3:=hok.cnt
 have o5:D.cnt≤D.cnt*D.sz:=Lu _ o1
 have o7:D.sz≤D.cnt*D.sz:=L1 _ o3
 have e1:(f+i*N+N)*D.sz≤D.cnt*D.sz:=Lr _ hin
 rw [Kh _ N] at e1
 refine C_o Tryz.func178 fun κ _ Je Jc hm=>?_
 refine au 2 ?_
 refine bT hm fun m1 w hm=>?_
 refine aT hm fun m2 w hm=>?_
 refine au 5 ?_
 refine cA rfl rfl rfl (C.as (v:=.int .i64 (N:Int)) (jr_length D m Z _ (hZ.ext hm.to) hz (f:Int) b hb) (by rw [hN])) hm fun w hm=>?_
 refine au 4 ?_
 refine dw [0,3,6,9,12,15,18,21,30,33,36,25,27,40,42,2,45,49] hm fun w hw hm0 hh hm=>?_
 refine au 4 ?_
 refine Ja rfl rfl (Vy rfl rfl (mulN (by omega))) ?_
 refine Ja rfl rfl (J5 rfl rfl (addK _ (by omega))) ?_
 refine au 5 ?_
 refine cB rfl rfl rfl (Xt D m Z _ (hZ.ext hm.to) hz) hm hh fun w hm hh=>?_
 refine Ja rfl rfl (Vy rfl rfl (mulN (by omega))) ?_
 refine cB rfl rfl rfl (Xt D m Z _ (hZ.ext hm.to) hz) hm hh fun w hm hh=>?_
 refine Ja rfl rfl (Vy rfl rfl (mulN (by omega))) ?_
 refine au 2 ?_
 refine st hm 0 fun w hm=>?_
 refine au 4 ?_
 exact ⟨rfl,hm.to⟩
theorem jr_check(D:Pl.Dv)(m:Nat)(Z:List (Nat×Blk))(w0:World)(hZ:Jr w0 Z)(hz:JV 112 258 5 D m Z)(f b:Int)(hf:Pl.I64 f)(hb:Pl.I64 b):C Tryz.prog 175 [.agg ⟨[.pointer (some ⟨m,0,none⟩),.int .i64 f,.int .i64 b]⟩] w0 fun v w'=>v=.int .i64 (Pl.jcheck D f b)∧Ext No w0 w':=by
 have hok:=hz.ok
 have o4:=hok.max
 have o5:D.cnt≤D.cnt*D.sz:=Lu _ hok.sz
 have hsb:=Pl.slot_bnd (D.sz:Int) b
 simp only [Pl.I64] at hf
 have hjc:Pl.jcheck D f b=if Pl.slot (D.sz:Int) b=0 then 20 else if f<0∨(D.cnt:Int)<f∨(D.cnt:Int)-f<2*Pl.slot (D.sz:Int) b then 17 else 0:=rfl
 refine C_o Tryz.func175 fun κ _ Je Jc hm=>?_
 refine au 2 ?_
 refine bT hm fun m1 w hm=>?_
 refine au 7 ?_
 refine cA rfl rfl rfl (jr_length D m Z _ (hZ.ext hm.to) hz f b hb) hm fun w hm=>?_
 refine au 20 ?_
 refine cd (fun hc1=>?_) fun hc1=>?_
 ·
  simp only [dT] at hc1
  refine au 9 ?_
  exact ⟨by rw [hjc,LI hc1],hm.to⟩
 ·
  simp only [dF] at hc1
  refine au 1 ?_
  rcases (show f<0∨(0≤f∧(D.cnt:Int)<f)∨(0≤f∧f≤(D.cnt:Int)) by omega) with hA | ⟨hA,hB⟩ | ⟨hA,hB⟩
  ·
   refine dw [0,3,6,9,12,15,18,21,25,27,30,33,36,39,45,48,54,57,43,51,60,63,66] hm fun w hw hm0 hh hm=>?_
   refine au 2 ?_
   refine Ja rfl rfl (JA (c:=true) (VO rfl rfl) (LQ hA)) ?_
   refine au 32 ?_
   exact ⟨by rw [hjc,LH hc1,LI (by omega)],hm.to⟩
  ·
   refine dw [0,3,6,9,12,15,18,21,25,27,30,33,36,39,45,48,54,57,43,51,60,63,66] hm fun w hw hm0 hh hm=>?_
   refine au 2 ?_
   refine Ja rfl rfl (JA (c:=false) (VO rfl rfl) (LN (by omega))) ?_
   refine au 5 ?_
   refine cB rfl rfl rfl (X6 D m Z _ (hZ.ext hm.to) hz) hm hh fun w hm hh=>?_
   refine Ja rfl rfl (JA (c:=true) (XE rfl rfl) (LQ hB)) ?_
   refine au 25 ?_
   exact ⟨by rw [hjc,LH hc1,LI (by omega)],hm.to⟩
  ·
   refine dw [0,3,6,9,12,15,18,21,25,27,30,33,36,39,45,48,54,57,43,51,60,63,66] hm fun w hw hm0 hh hm=>?_
   refine au 2 ?_
   refine Ja rfl rfl (JA (c:=false) (VO rfl rfl) (LN (by omega))) ?_
   refine au 5 ?_
   refine cB rfl rfl rfl (X6 D m Z _ (hZ.ext hm.to) hz) hm hh fun w hm hh=>?_
   refine Ja rfl rfl (JA (c:=false) (XE rfl rfl) (LN (by omega))) ?_
   refine au 8 ?_
   refine cB rfl rfl rfl (X6 D m Z _ (hZ.ext hm.to) hz) hm hh fun w hm hh=>?_
   refine au 6 ?_
   refine cd (fun hc2=>?_) fun hc2=>?_
   ·
    simp only [dT] at hc2
    refine au 9 ?_
    exact ⟨by rw [hjc,LH hc1,LI (by omega)],hm.to⟩
   ·
    simp only [dF] at hc2
    refine au 10 ?_
    exact ⟨by rw [hjc,LH hc1,LH (by omega)],hm.to⟩
theorem rdB_len{D:Pl.Dv}(h:Pl.okDv D)(a b:Int):(Pl.rdB D a b).length≤1048576:=by
 have h1:=Pl.Xh h
 have h2:=h.max
 unfold Pl.rdB
 split
 · rw [Lg,Lm]; omega
 · exact LL _
theorem j_open1(D:Pl.Dv)(m:Nat)(Z:List (Nat×Blk))(w0:World)(hZ:Jr w0 Z)(hz:JV 112 258 5 D m Z)(f N:Nat)(b:Int)(hb:Pl.I64 b)(hN:Pl.slot (D.sz:Int) b=(N:Int))(k:Int)(i:Nat)(h2:f+2*N≤D.cnt)(hi2:i<2)(hdn:D.dn=false)(q1 q2 q3 j:Nat)(hq1:w0.heap[q1]?=some (Blk.row 67 [.pointer (some ⟨m,0,none⟩)]).Jd)(hq2:w0.heap[q2]?=some (Blk.row 181 [.pointer (some ⟨j,0,none⟩)]).Jd)(hj:w0.heap[j]?=some (Blk.row 271 [.pointer (some ⟨m,0,none⟩),.int .i64 (f:Int),.int .i64 b,.int .u64 k,.int .u64 1,.int .u64 0,.int .u64 0,.int .i64 0,.int .i64 0,.slice none 0 0,.bool false]).Jd)(p_s:Option Addr)(cap_s g_s:Nat)(b_s:Blk)(xs:List RcV)(ha_s:Acc 225 5 p_s xs.length cap_s (xs.flatMap Xz) g_s b_s)(hO:Jr w0 [(q3,.row 273 [.slice p_s xs.length cap_s]),(g_s,b_s)])(hlen:xs.length≤1000):C Tryz.prog 176 [.int .i64 (i:Int),.pointer (some ⟨q1,0,none⟩),.pointer (some ⟨q2,0,none⟩),.pointer (some ⟨q3,0,none⟩)] w0 fun v w'=>v=.int .i64 0∧∃ p' cap' g' b' xs' B,Acc 225 5 p' (xs':List RcV).length cap' (xs'.flatMap Xz) g' b'∧Mem w0 w' (Mn (reals [(q3,.row 273 [.slice p_s xs.length cap_s]),(g_s,b_s)])) ((q3,.row 273 [.slice p' xs'.length cap'])::(g',b')::B)∧xs'.map RcV.rc=xs.map RcV.rc++(Pl.jrec D f N i).toList∧∀ y∈xs',y∈xs∨HRd B 5 y.d:=by
 have hok:=hz.ok
 have o1:=hok.sz
 have o4:=hok.max
 have o3:=hok.cnt
 have o5:D.cnt≤D.cnt*D.sz:=Lu _ o1
 have o7:D.sz≤D.cnt*D.sz:=L1 _ o3
 have hin:f+i*N+N≤D.cnt:=by rcases (show i=0∨i=1 by omega) with h9 | h9 <;> rw [h9] <;> omega
 have e1:(f+i*N+N)*D.sz≤D.cnt*D.sz:=Lr _ hin
 rw [Kh _ N] at e1
 have hrc:Pl.Q6 D (((f+i*N)*D.sz:Nat):Int) ((N*D.sz:Nat):Int)=0:=Pl.jcode hok hdn h2 hi2
 refine C_o Tryz.func176 fun κ _ Je Jc hm=>?_
 refine au 6 ?_
 refine dw [0,3,6,9,12,15,19,22,24,27,30,33,36] hm fun w hw hm0 hh hm=>?_
 refine au 4 ?_
 refine Ja rfl rfl (Jm (s:=3) (vs:=[_,_,_]) rfl ag269.h (fun u hu=>((hm0.to.trans hu).same _ (Lb.1 hj).1 id).trans hj) rfl) ?_
 refine au 1 ?_
 refine cB rfl rfl rfl (jr_slot D m Z _ (hZ.ext hm.to) hz f N b hb hN i hin) hm hh fun w hm hh=>?_
 refine ca rfl rfl rfl (f_readA D m Z _ (hZ.ext hm.to) hz (((f+i*N)*D.sz:Nat):Int) ((N*D.sz:Nat):Int) (by simp only [Pl.I64]; omega) (by simp only [Pl.I64]; omega)) fun v w hR=>?_
 obtain ⟨p_d,cap_d,g_d,b_d,rfl,ha_d,hmc⟩:=hR
 refine ⟨hh.ext hmc.to,?_⟩
 have hg_d:b_d.real=true→_:=fun hr=>(hmc.fresh _ Lo hr).resolve_left id
 replace hh:=hh.ext hmc.to
 replace hm:=hm.Jt hmc
 rw [hrc]
 refine au 11 ?_
 refine Ja rfl rfl (JA (c:=false) (XD rfl rfl) (by decide)) ?_
 refine au 7 ?_
 cases hr:Pl.jrec D f N i
 ·
  refine au 2 ?_
  refine cT rfl rfl rfl (rec_decF p_d cap_d (Pl.rdB D (((f+i*N)*D.sz:Nat):Int) ((N*D.sz:Nat):Int)) _ (ha_d.rd hm 0 rfl) ha_d.le ha_d.spot (Ki (rdB_len hok _ _) (by decide)) hr) fun v w hR=>?_
  obtain ⟨⟨q_,c_,rfl⟩,hE⟩:=hR
  replace hm:=hm.ext hE
  refine au 3 ?_
  refine aT hm fun m1 w hm=>?_
  refine st hm 0 fun w hm=>?_
  refine au 6 ?_
  refine Ja rfl rfl (JA (c:=false) (V3 rfl rfl) (by decide)) ?_
  replace hm:=hm.Zp hO
  refine au 12 ?_
  exact ⟨rfl,p_s,cap_s,g_s,b_s,xs,[],ha_s,(hm.pick [2,3] rfl),by rw [hr]; simp,fun y hy=>.inl hy⟩
 ·
  rename_i rr
  refine au 2 ?_
  refine cT rfl rfl rfl (rec_decT rr p_d cap_d (Pl.rdB D (((f+i*N)*D.sz:Nat):Int) ((N*D.sz:Nat):Int)) _ (ha_d.rd hm 0 rfl) ha_d.le ha_d.spot (Ki (rdB_len hok _ _) (by decide)) hr) fun v w hR=>?_
  obtain ⟨p_t,cap_t,g_t,b_t,al_t,rfl,ha_t,hal_t,hmc⟩:=hR
  replace hm:=hm.Jt hmc
  refine au 3 ?_
  refine aT hm fun m1 w hm=>?_
  refine st hm 0 fun w hm=>?_
  refine au 6 ?_
  refine Ja rfl rfl (JA (c:=true) (V3 rfl rfl) (by decide)) ?_
  replace hm:=hm.Zp hO
  refine au 6 ?_
  refine Jb (l:=[_,_,_,_,_]) rfl rfl sl273.h z225.h rfl rfl rfl rfl rfl rfl rfl hm trivial fun m2 w hg_m2 hm hh=>?_
  refine Jy rfl rfl rfl rfl rfl rfl sl273.h sl273.h z225.h rfl rfl (Rd.JL (hm.get (k:=0) rfl)) rfl ha_s hm 5 rfl (by omega) (by omega) fun p_s cap_s g_s b_s w ha_s hm=>?_
  refine st hm 4 fun w hm=>?_
  refine au 9 ?_
  refine ⟨rfl,p_s,cap_s,g_s,b_s,xs++[(⟨rr.sq,rr.id,rr.cu,rr.of,⟨slp p_t cap_t 40 1,cap_t-40,rr.bs⟩⟩:RcV)],[(g_t,b_t)],(by rw [Lc]; exact ha_s.to (by rw [Lh]; rfl)),(by rw [Lc]; exact (hm.pick [4,5,2] rfl)),by rw [hr,Lx]; rfl,fun y hy=>?_⟩
  rcases Ls.1 hy with h9 | h9
  · exact .inl h9
  · rw [Lf.1 h9]; exact .inr ⟨g_t,b_t,p_t,cap_t,al_t,by simp,ha_t,rfl,hal_t⟩
theorem rdec_len{b:List UInt8}{r:Pl.Rc}(h:Pl.rdec b=some r):r.bs.length≤b.length:=by
 unfold Pl.rdec at h
 simp only at h
 split at h
 · cases h
 · split at h
   · cases h
     simp only [Lm,Lg]
     omega
   · cases h
theorem Pl.jrecs_len{D:Pl.Dv}(h:Pl.okDv D){f N:Nat}{r:Pl.Rc}(hr:r∈Pl.jrecs D f N):r.bs.length≤1048576:=by
 unfold Pl.jrecs at hr
 rcases Ls.1 hr with h1 | h1
 · exact Ki (rdec_len (Option.mem_toList.1 h1)) (rdB_len h _ _)
 · exact Ki (rdec_len (Option.mem_toList.1 h1)) (rdB_len h _ _)
theorem rec_newestC(k:Int)(p:Option Addr)(cap:Nat)(xs:List RcV)(l:List Pl.Rc)(hl:xs.map RcV.rc=l)(w0:World)(hx:Rd w0 p (xs.flatMap Xz))(hlen:xs.length≤1048576)(hd:∀ x∈xs,Rd w0 x.d.p (x.d.bs.flatMap Jk)∧x.d.bs.length≤140737488355328) :
 C Tryz.prog 180 [.int .u64 k,.slice p xs.length cap] w0 fun v w'=>∃ q c g b,v=.tuple ⟨[.agg ⟨rcV (Pl.bestC (l.filter fun r=>decide (r.id=k))) q (Pl.bestC (l.filter fun r=>decide (r.id=k))).bs.length c⟩,.bool (decide (0<(l.filter fun r=>decide (r.id=k)).length))]⟩∧Acc 5 1 q (Pl.bestC (l.filter fun r=>decide (r.id=k))).bs.length c ((Pl.bestC (l.filter fun r=>decide (r.id=k))).bs.flatMap Jk) g b∧Mem w0 w' No [(g,b)]:=by
 have h:=rec_newest k p cap xs w0 hx hlen hd
 have e1:=filt_rc k xs
 have e2:(xs.filter fun x=>decide (x.id=k)).length=(l.filter fun r=>decide (r.id=k)).length:=by rw [← hl,← e1,Lj]
 rw [hl] at e1
 rw [bestR_rc,e1,e2] at h
 exact h
theorem jcheck0{D:Pl.Dv}{f N:Nat}{b:Int}(hN:Pl.slot (D.sz:Int) b=(N:Int))(h0:N≠0)(h2:f+2*N≤D.cnt):Pl.jcheck D (f:Int) b=0:=by
 unfold Pl.jcheck
 rw [hN,LH (by omega),LH (by omega)]
theorem j_open(D:Pl.Dv)(m:Nat)(Z:List (Nat×Blk))(w0:World)(hZ:Jr w0 Z)(hz:JV 112 258 5 D m Z)(f N:Nat)(b:Int)(hb:Pl.I64 b)(hN:Pl.slot (D.sz:Int) b=(N:Int))(h0:N≠0)(h2:f+2*N≤D.cnt)(k:Int)(hdn:D.dn=false):C Tryz.prog 144 [.pointer (some ⟨m,0,none⟩),.int .i64 (f:Int),.int .i64 b,.int .u64 k] w0 fun v w'=>∃ j Zj,v=.tuple ⟨[.pointer (some ⟨j,0,none⟩),.int .i64 0]⟩∧JZ 271 5 m (f:Int) b k (Pl.jopen D f N k) j Zj∧Mem w0 w' No Zj:=by
 have hok:=hz.ok
 have o1:=hok.sz
 have o4:=hok.max
 have o3:=hok.cnt
 have o5:D.cnt≤D.cnt*D.sz:=Lu _ o1
 have o7:D.sz≤D.cnt*D.sz:=L1 _ o3
 refine C_o Tryz.func144 fun κ _ Je Jc hm=>?_
 refine au 2 ?_
 refine bT hm fun m1 w hm=>?_
 refine au 9 ?_
 refine Ja rfl rfl (Qe (cs:=[_,_,_]) z269.h ft269.h rfl rfl rfl rfl rfl) ?_
 refine au 1 ?_
 refine Ja rfl rfl (Qe (cs:=[_,_,_,_,_,_,_,_,_,_,_]) z271.h ft271.h rfl rfl rfl rfl rfl) ?_
 refine bT hm fun m2 w hm=>?_
 refine aT hm fun m3 w hm=>?_
 refine st hm 0 fun w hm=>?_
 refine Qc ?_
 refine QV ?_
 refine Qb rfl ?_
 refine Qb rfl ?_
 refine JT (.pure 0 (.pure 1 (.pure 2 (.pure 3 (.act 4 (.pure 5 .done)))))) (by kernel_rfl) ?_
 refine Ja rfl rfl (Jh rfl sc181.h (hm.nt 0 rfl) rfl) ?_
 refine Ja rfl rfl (y_nil rfl) ?_
 refine Ja rfl rfl (Jv rfl fo271_0.h) ?_
 refine Ja rfl rfl (Jm (s:=3) (vs:=[_,_,_]) rfl ag269.h (hm.nt 1 rfl) rfl) ?_
 refine cA rfl rfl rfl (C.as (v:=.int .i64 0) (jr_check D m Z _ (hZ.ext hm.to) hz (f:Int) b (by simp only [Pl.I64]; omega) hb) (by rw [jcheck0 hN h0 h2])) hm fun w hm=>?_
 refine au 6 ?_
 refine Ja rfl rfl (JA (c:=false) (XD rfl rfl) (by decide)) ?_
 refine au 7 ?_
 refine aT hm fun m4 w hm=>?_
 replace hm:=hm.JP
 have ha_s:=Acc.nil 225 5 none 0
 refine au 15 ?_
 refine Jg (ι:=Nat×Ow×List RcV×List (Nat×Blk)) rfl (ks:=[3,10,12,13]) (.cons rfl (.cons rfl (.cons rfl (.cons rfl .nil)))) (fun x=>[(34,.int .i64 x.1)]) (fun x w=>Mem w0 w No ((m4,.row 273 [.slice x.2.1.p x.2.2.1.length x.2.1.cap])::(x.2.1.g,x.2.1.b)::(m3,.row 181 [.pointer (some ⟨m2,0,none⟩)])::(m2,.row 271 [.pointer (some ⟨m,0,none⟩),.int .i64 (f:Int),.int .i64 b,.int .u64 k,.int .u64 1,.int .u64 0,.int .u64 0,.int .i64 0,.int .i64 0,.slice none 0 0,.bool false])::(m1,.row 67 [.pointer (some ⟨m,0,none⟩)])::x.2.2.2)∧Acc 225 5 x.2.1.p x.2.2.1.length x.2.1.cap (x.2.2.1.flatMap Xz) x.2.1.g x.2.1.b∧x.2.2.1.map RcV.rc=Pl.jfst D f N x.1∧(∀ y∈x.2.2.1,HRd x.2.2.2 5 y.d)∧x.1≤2) (fun x=>2-x.1) (0,⟨none,0,0,0,.gap⟩,[],[]) (⟨(hm.pick [1,0,2,3,4] rfl),ha_s,rfl,by simp,by simp only; omega⟩) ⟨rfl,trivial⟩ (fun x w hM=>?_)
 obtain ⟨hm,ha_s,hxm,hH,hk⟩:=hM
 refine au 6 ?_
 refine cd (fun hc1=>?_) fun hc1=>?_
 ·
  simp only [dT] at hc1
  have hxl9:x.2.2.1.length≤1000:=by have h9:=LM List.length hxm; rw [Lj] at h9; have h8:=Pl.jfst_len D f N x.1; omega
  refine au 14 ?_
  refine Qf rfl rfl rfl rfl go176 (j_open1 D m Z _ (hZ.ext hm.to) hz f N b hb hN k x.1 h2 (by omega) hdn m1 m3 m4 m2 (hm.get (k:=4) rfl) (hm.get (k:=2) rfl) (hm.get (k:=3) rfl) x.2.1.p x.2.1.cap x.2.1.g x.2.1.b x.2.2.1 ha_s (Jr.left (A:=[_,_]) hm.Jz) hxl9) fun v w hR=>?_
  obtain ⟨rfl,p_s,cap_s,g_s,b_s,xs_n,B_n,ha_s,hmc,hxm_n,hH_n⟩:=hR
  refine ⟨trivial,?_⟩
  replace hm:=(Mem.callZ (Z:=[_,_]) (L:=[_,_,_]++_) hm hmc).perm bag2
  refine au 6 ?_
  refine Ja rfl rfl (JA (c:=false) (XD rfl rfl) (by decide)) ?_
  refine au 10 ?_
  refine next (x.1+1,⟨p_s,0,cap_s,g_s,b_s⟩,xs_n,B_n++x.2.2.2) (by simp only; omega) ⟨(hm.Jp [0,1,2,3,4] 5 rfl),ha_s,by rw [hxm_n,hxm,Pl.Zb],fun y hy=>(hH_n y hy).elim (fun h9=>(hH y h9).mono fun e he=>Ly _ he) (fun h9=>h9.mono fun e he=>Lw _ he),by simp only; omega⟩ ⟨nx x.1,rfl,rfl,rfl,rfl,trivial⟩
 ·
  simp only [dF] at hc1
  obtain ⟨i9,⟨p_s,n9,cap_s,g_s,b_s⟩,xs,BB⟩:=x
  simp only at hm ha_s hxm hH hk hc1 ⊢
  obtain rfl:i9=2:=by omega
  rw [Pl.jfst_two] at hxm
  have hxl:xs.length≤2:=by have h9:=LM List.length hxm; rw [Lj] at h9; have h8:=Pl.jfst_len D f N 2; rw [Pl.jfst_two] at h8; omega
  have hrd:∀ y∈xs,∀ u (X:Bs) L,Mem w0 u X L→(∀ e,e∈BB→e∈L)→Rd u y.d.p (y.d.bs.flatMap Jk):=fun y hy u X L h9 h8=>(hH y hy).rd h9 h8
  have hbl:∀ y∈xs,y.d.bs.length≤1048576:=fun y hy=>Pl.jrecs_len hz.ok (show y.rc∈Pl.jrecs D f N by rw [← hxm]; exact List.mem_map_of_mem hy)
  refine au 14 ?_
  refine Jg (ι:=Nat×Int) rfl (ks:=[3,10,12,44,45]) (.cons rfl (.cons rfl (.cons rfl (.cons rfl (.cons rfl .nil))))) (fun y=>[(46,.int .i64 y.1)]) (fun y w=>Mem w0 w No ((m4,.row 273 [.slice p_s xs.length cap_s])::(g_s,b_s)::(m3,.row 181 [.pointer (some ⟨m2,0,none⟩)])::(m2,.row 271 [.pointer (some ⟨m,0,none⟩),.int .i64 (f:Int),.int .i64 b,.int .u64 k,.int .u64 y.2,.int .u64 0,.int .u64 0,.int .i64 0,.int .i64 0,.slice none 0 0,.bool false])::(m1,.row 67 [.pointer (some ⟨m,0,none⟩)])::BB)∧y.1≤xs.length∧(y.1=0→y.2=1)∧(y.1=1→∀ e,xs[0]?=some e→y.2=IntKind.u64.wrap (e.sq+1))) (fun y=>xs.length-y.1) (0,1) (⟨(hm.Jp [0,1,2,3,4] 5 rfl),LL _,fun _=>rfl,fun h9=>absurd h9 (by simp only; omega)⟩) ⟨rfl,trivial⟩ (fun y w hM=>?_)
  obtain ⟨hm,hky,hn0,hn1⟩:=hM
  refine au 6 ?_
  refine cd (fun hc3=>?_) fun hc3=>?_
  ·
   simp only [dT] at hc3
   obtain ⟨e,hi⟩:∃ y_,xs[y.1]?=some y_:=⟨_,La (by omega)⟩
   obtain rfl:=ha_s.ptr (by omega)
   refine au 8 ?_
   refine Ja rfl rfl (JU rfl ag225.h (ha_s.rd hm 1 rfl).nt Vn hi) ?_
   refine aT hm fun m5 w hm=>?_
   refine au 1 ?_
   refine st hm 0 fun w hm=>?_
   refine au 3 ?_
   by_cases hy0:y.1=0
   ·
    refine dw [0,3,6,9,12,15,18,21,24,27,30] hm fun w hw hm0 hh hm=>?_
    refine au 1 ?_
    refine Ja rfl rfl (JA (c:=true) (V3 rfl rfl) (LQ (by omega))) ?_
    refine au 16 ?_
    refine Ja rfl rfl (J5 rfl rfl rfl) ?_
    refine au 2 ?_
    refine st hm 4 fun w hm=>?_
    refine au 7 ?_
    refine next (y.1+1,_) (by simp only; omega) ⟨(hm.Jp [1,2,3,4,5] 6 rfl),by simp only; omega,fun h9=>absurd h9 (by simp only; omega),fun h9 e9 he9=>?_⟩ ⟨nx y.1,rfl,rfl,rfl,rfl,rfl,trivial⟩
    first
    | (exfalso; simp only at h9; omega)
    | (rw [hy0] at hi; rw [hi] at he9; cases he9; rfl)
   ·
    refine dw [0,3,6,9,12,15,18,21,24,27,30] hm fun w hw hm0 hh hm=>?_
    refine au 1 ?_
    refine Ja rfl rfl (JA (c:=false) (V3 rfl rfl) (LN (by omega))) ?_
    refine au 11 ?_
    refine cd (fun hc4=>?_) fun hc4=>?_
    ·
     refine au 4 ?_
     refine Ja rfl rfl (J5 rfl rfl rfl) ?_
     refine au 2 ?_
     refine st hm 4 fun w hm=>?_
     refine au 7 ?_
     refine next (y.1+1,_) (by simp only; omega) ⟨(hm.Jp [1,2,3,4,5] 6 rfl),by simp only; omega,fun h9=>absurd h9 (by simp only; omega),fun h9 e9 he9=>?_⟩ ⟨nx y.1,rfl,rfl,rfl,rfl,rfl,trivial⟩
     first
     | (exfalso; simp only at h9; omega)
     | (rw [hy0] at hi; rw [hi] at he9; cases he9; rfl)
    ·
     refine au 7 ?_
     refine next (y.1+1,_) (by simp only; omega) ⟨(hm.Jp [1,2,3,4,5] 6 rfl),by simp only; omega,fun h9=>absurd h9 (by simp only; omega),fun h9 e9 he9=>?_⟩ ⟨nx y.1,rfl,rfl,rfl,rfl,rfl,trivial⟩
     first
     | (exfalso; simp only at h9; omega)
     | (rw [hy0] at hi; rw [hi] at he9; cases he9; rfl)
  ·
   simp only [dF] at hc3
   have hye:y.1=xs.length:=by omega
   refine au 13 ?_
   refine cd (fun hc5=>?_) fun hc5=>?_
   ·
    simp only [dT] at hc5
    obtain ⟨e0,e1,rfl⟩:∃ a b,xs=[a,b]:=by match xs,hc5 with | [a,b],_=>exact ⟨a,b,rfl⟩
    obtain rfl:=ha_s.ptr (by simp)
    have hi0:[e0,e1][0]?=some e0:=rfl
    have hi1:[e0,e1][1]?=some e1:=rfl
    refine dw [0,3,6,9,12,15,18,21,24,27,30,2,33,36,40] hm fun w hw hm0 hh hm=>?_
    refine au 2 ?_
    refine Ja rfl rfl (Qy rfl rfl sl273.h rfl (by decide) (by simp)) ?_
    refine au 1 ?_
    refine Ja rfl rfl (Yr rfl sc55.h (ha_s.rd hm0 1 rfl).nd Vn hi0 rfl) ?_
    refine au 1 ?_
    refine Ja rfl rfl (Qy rfl rfl sl273.h rfl (by decide) (by simp)) ?_
    refine au 1 ?_
    refine Ja rfl rfl (Yr rfl sc55.h (ha_s.rd hm0 1 rfl).nd Vn hi1 rfl) ?_
    refine au 1 ?_
    refine Ja rfl rfl (J5 rfl rfl rfl) ?_
    refine au 3 ?_
    refine st hm 3 fun w hm=>?_
    rw [show IntKind.u64.wrap (max e0.sq e1.sq+1)=Pl.jnext (Pl.jrecs D f N) by rw [← hxm]; rfl] at hm
    refine au 3 ?_
    refine JS (.pure 0 (.pure 1 (.pure 2 (.pure 3 (.act 4 (.pure 5 (.pure 6 (.pure 7 (.pure 8 (.pure 9 (.act 10 (.pure 11 (.pure 12 (.act 13 .done)))))))))))))) (fun j=>j=m2) mix (by kernel_rfl) hm fun w hw hm0 hh=>?_
    have hm:=hm0
    refine Ja rfl rfl (Jh rfl sc181.h (hm0.nd 2 rfl (hm0.ne 2 3 rfl rfl rfl)) rfl) ?_
    refine Ja rfl rfl (Jh rfl sc181.h (hm0.nd 2 rfl (hm0.ne 2 3 rfl rfl rfl)) rfl) ?_
    refine au 1 ?_
    refine Ja rfl rfl (Jh rfl sc273.h (hm0.nd 0 rfl (hm0.ne 0 3 rfl rfl rfl)) rfl) ?_
    refine ca rfl rfl rfl (rec_newestC k _ _ _ (Pl.jrecs D f N) hxm _ (ha_s.rd hm 1 rfl) (Ki hxl (by decide)) (fun y hy=>⟨hrd y hy _ _ _ hm (fun e he=>by simp [Qr,he]),Ki (hbl y hy) (by decide)⟩)) fun v w hR=>?_
    obtain ⟨p_z,cap_z,g_z,b_z,rfl,ha_z,hmc⟩:=hR
    refine ⟨hh.ext hmc.to,?_⟩
    have hg_z:b_z.real=true→_:=fun hr=>(hmc.fresh _ Lo hr).resolve_left id
    replace hh:=hh.ext hmc.to
    replace hm:=hm.Jt hmc
    refine au 5 ?_
    refine QO rfl rfl rfl rfl sz225 rfl hm 4 rfl rfl hh (.inr rfl) fun w hm hh=>?_
    refine au 2 ?_
    refine QO rfl rfl rfl rfl sz4 rfl hm 4 rfl rfl hh (.inr rfl) fun w hm hh=>?_
    refine au 11 ?_
    exact ⟨m2,[_,(g_z,b_z)],rfl,⟨p_z,cap_z,g_z,b_z,rfl,ha_z⟩,(hm.pick [4,0] rfl)⟩
   ·
    simp only [dF] at hc5
    have hnx:y.2=Pl.jnext (Pl.jrecs D f N):=by
     rw [← hxm]
     match xs,hye,hn0,hn1,hxl,hc5 with
     | [],hye,hn0,hn1,_,_=>exact hn0 hye
     | [e0],hye,hn0,hn1,_,_=>exact hn1 hye e0 rfl
     | [_,_],_,_,_,_,h9=>exact absurd rfl h9
     | _::_::_::_,_,_,_,h9,_=>simp only [Li] at h9; omega
    rw [hnx] at hm
    refine au 3 ?_
    refine JS (.pure 0 (.pure 1 (.pure 2 (.pure 3 (.act 4 (.pure 5 (.pure 6 (.pure 7 (.pure 8 (.pure 9 (.act 10 (.pure 11 (.pure 12 (.act 13 .done)))))))))))))) (fun j=>j=m2) mix (by kernel_rfl) hm fun w hw hm0 hh=>?_
    have hm:=hm0
    refine Ja rfl rfl (Jh rfl sc181.h (hm0.nd 2 rfl (hm0.ne 2 3 rfl rfl rfl)) rfl) ?_
    refine Ja rfl rfl (Jh rfl sc181.h (hm0.nd 2 rfl (hm0.ne 2 3 rfl rfl rfl)) rfl) ?_
    refine au 1 ?_
    refine Ja rfl rfl (Jh rfl sc273.h (hm0.nd 0 rfl (hm0.ne 0 3 rfl rfl rfl)) rfl) ?_
    refine ca rfl rfl rfl (rec_newestC k _ _ _ (Pl.jrecs D f N) hxm _ (ha_s.rd hm 1 rfl) (Ki hxl (by decide)) (fun y hy=>⟨hrd y hy _ _ _ hm (fun e he=>by simp [Qr,he]),Ki (hbl y hy) (by decide)⟩)) fun v w hR=>?_
    obtain ⟨p_z,cap_z,g_z,b_z,rfl,ha_z,hmc⟩:=hR
    refine ⟨hh.ext hmc.to,?_⟩
    have hg_z:b_z.real=true→_:=fun hr=>(hmc.fresh _ Lo hr).resolve_left id
    replace hh:=hh.ext hmc.to
    replace hm:=hm.Jt hmc
    refine au 5 ?_
    refine QO rfl rfl rfl rfl sz225 rfl hm 4 rfl rfl hh (.inr rfl) fun w hm hh=>?_
    refine au 2 ?_
    refine QO rfl rfl rfl rfl sz4 rfl hm 4 rfl rfl hh (.inr rfl) fun w hm hh=>?_
    refine au 11 ?_
    exact ⟨m2,[_,(g_z,b_z)],rfl,⟨p_z,cap_z,g_z,b_z,rfl,ha_z⟩,(hm.pick [4,0] rfl)⟩
theorem YM(D:Pl.Dv)(m:Nat)(Z:List (Nat×Blk))(S:Pl.Jn)(j:Nat)(Zj:List (Nat×Blk))(f N:Nat)(b k:Int)(cu of:Int)(q:Option Addr)(cq:Nat)(ps:List SB)(BB:List UInt8)(w0:World)(hZ:Jr w0 (Zj++Z))(hz:JV 112 258 5 D m Z)(hj:JZ 271 5 m (f:Int) b k S j Zj)(hb:Pl.I64 b)(hN:Pl.slot (D.sz:Int) b=(N:Int))(h0:N≠0)(h2:f+2*N≤D.cnt)(hS:0≤S.nx∧S.nx≤18446744073709551615)(hk:0≤k∧k≤18446744073709551615)(hcu:Pl.I64 cu)(hof:Pl.I64 of)(hq:Rd w0 q (ps.flatMap encS))(hps:∀ s∈ps,Rd w0 s.p (s.bs.flatMap Jk))(hl:ps.length≤4611686018427387903)(hBB:ps.flatMap (·.bs)=BB)(hbl:BB.length≤70368744177600)(hcl:D.ca.length+D.cnt≤1000000000):C Tryz.prog 236 [.pointer (some ⟨j,0,none⟩),.int .i64 cu,.int .i64 of,.slice q ps.length cq] w0 fun v w'=>v=.int .i64 (Pl.japp D f N b S (Pl.jmk S k cu of BB)).1∧∃ Zj' Z',JZ 271 5 m (f:Int) b k (Pl.japp D f N b S (Pl.jmk S k cu of BB)).2.2 j Zj'∧JV 112 258 5 (Pl.japp D f N b S (Pl.jmk S k cu of BB)).2.1 m Z'∧Mem w0 w' (Mn (reals (Zj++Z))) (Zj'++Z'):=by
 have hok:=hz.ok
 have o1:=hok.sz
 have o4:=hok.max
 have o3:=hok.cnt
 have o5:D.cnt≤D.cnt*D.sz:=Lu _ o1
 obtain ⟨p_x,c_x,g_x,b_x,rfl,ha_x⟩:=hj
 have hJ:=hZ.get (k:=0) rfl
 have hfit:=Pl.slot_fit hN h0
 have hcast:((N*D.sz:Nat):Int)=(N:Int)*(D.sz:Int):=Int.natCast_mul N D.sz
 have hkr:Pl.okRc (Pl.jmk S k cu of BB):=⟨hS,hk,hcu,hof⟩
 have hlt:=Pl.Xv S
 have hmod:IntKind.i64.wrap (S.nx.tmod 2)=((Pl.Jo S:Nat):Int):=by
  have h9:S.nx.tmod 2=((Pl.Jo S:Nat):Int):=by rw [Int.tmod_eq_emod_of_nonneg hS.1]; unfold Pl.Jo; have:=Int.emod_nonneg S.nx (show (2:Int)≠0 by decide); omega
  rw [h9]; exact Ql (by omega) (by omega)
 have hin:f+Pl.Jo S*N+N≤D.cnt:=by rcases (show Pl.Jo S=0∨Pl.Jo S=1 by omega) with h9 | h9 <;> rw [h9] <;> omega
 refine C_o Tryz.func236 fun κ _ Je Jc hm=>?_
 refine au 16 ?_
 refine JS (.pure 0 (.pure 1 (.pure 2 (.pure 3 (.pure 4 (.pure 5 (.pure 6 (.pure 7 (.pure 8 (.pure 9 (.pure 10 (.act2 11 (.pure 12 (.act 13 (.cut (.act 14 .done)))) 13 (.act 11 (.pure 12 (.cut (.act 14 .done)))))))))))))))) No mix (by kernel_rfl) hm fun w hw hm0 hh=>?_
 have hm:=hm0
 refine au 11 ?_
 refine QN ?_ ?_
 ·
  refine ca rfl rfl rfl (Yc q cq ps _ (hq.Jj hm.to) (fun s hs=>(hps s hs).Jj hm.to) hl (by rw [hBB]; omega)) fun v w hR=>?_
  obtain ⟨p_s,n_s,cap_s,g_s,b_s,rfl,ha_s,hmc⟩:=hR
  refine ⟨hh.ext hmc.to,?_⟩
  replace hh:=hh.ext hmc.to
  replace hm:=hm.Jt hmc
  rw [hBB] at ha_s
  obtain rfl:n_s=BB.length:=ha_s.J0
  refine au 1 ?_
  refine al hm hh fun m1 w hg_m1 hm hh=>?_
  refine au 1 ?_
  refine st hm 0 fun w hm=>?_
  refine au 3 ?_
  cases hr:Pl.rright (Pl.jmk S k cu of BB)
  ·
   refine au 2 ?_
   refine cT rfl rfl rfl (rec_encF (Pl.jmk S k cu of BB) p_s cap_s _ (ha_s.rd hm 1 rfl) hkr hbl hr) fun v w hR=>?_
   obtain ⟨⟨q_,c_,rfl⟩,hE⟩:=hR
   replace hm:=hm.ext hE
   refine au 9 ?_
   refine dw [0,3,6,9,12,15,18,21,24,27,30,33,36] hm fun w hw hm0 hh hm=>?_
   refine au 1 ?_
   refine Ja rfl rfl (JA (c:=true) (XD rfl rfl) (by decide)) ?_
   refine au 22 ?_
   exact ⟨by rw [show (Pl.japp D f N b S (Pl.jmk S k cu of BB))=(2,D,S) from LH (fun h9=>by rw [hr] at h9; cases h9.1)],[_,_],Z,by rw [show (Pl.japp D f N b S (Pl.jmk S k cu of BB))=(2,D,S) from LH (fun h9=>by rw [hr] at h9; cases h9.1)]; exact ⟨p_x,c_x,g_x,b_x,rfl,ha_x⟩,by rw [show (Pl.japp D f N b S (Pl.jmk S k cu of BB))=(2,D,S) from LH (fun h9=>by rw [hr] at h9; cases h9.1)]; exact hz,(hm.Zp hZ).right⟩
  ·
   refine au 2 ?_
   refine cT rfl rfl rfl (rec_encT (Pl.jmk S k cu of BB) p_s cap_s _ (ha_s.rd hm 1 rfl) hkr hbl hr) fun v w hR=>?_
   obtain ⟨p_z,cap_z,g_z,b_z,rfl,ha_z,hmc⟩:=hR
   have hg_z:b_z.real=true→_:=fun hr=>(hmc.fresh _ Lo hr).resolve_left id
   replace hm:=hm.Jt hmc
   refine au 9 ?_
   refine dw [0,3,6,9,12,15,18,21,24,27,30,33,36] hm fun w hw hm0 hh hm=>?_
   refine au 1 ?_
   refine Ja rfl rfl (JA (c:=false) (XD rfl rfl) (by decide)) ?_
   refine au 13 ?_
   refine cd (fun hc1=>?_) fun hc1=>?_
   ·
    refine au 8 ?_
    exact ⟨by rw [show (Pl.japp D f N b S (Pl.jmk S k cu of BB))=(2,D,S) from LH (fun h9=>by have h8:(BB.length:Int)≤b:=h9.2; simp only [dT] at hc1; omega)],[_,_],Z,by rw [show (Pl.japp D f N b S (Pl.jmk S k cu of BB))=(2,D,S) from LH (fun h9=>by have h8:(BB.length:Int)≤b:=h9.2; simp only [dT] at hc1; omega)]; exact ⟨p_x,c_x,g_x,b_x,rfl,ha_x⟩,by rw [show (Pl.japp D f N b S (Pl.jmk S k cu of BB))=(2,D,S) from LH (fun h9=>by have h8:(BB.length:Int)≤b:=h9.2; simp only [dT] at hc1; omega)]; exact hz,(hm.Zp hZ).right⟩
   ·
    simp only [dF] at hc1
    have hgo:(Pl.japp D f N b S (Pl.jmk S k cu of BB))=Pl.jgo D f N S (Pl.jmk S k cu of BB):=LI ⟨hr,by show (BB.length:Int)≤b; omega⟩
    have hEl:=Pl.VC (Pl.jmk S k cu of BB)
    have hEb:(Pl.renc (Pl.jmk S k cu of BB)).length=44+BB.length:=hEl
    have hon:Pl.onD D (((Pl.jat D f N (Pl.Jo S)):Nat):Int) ((Pl.renc (Pl.jmk S k cu of BB)).length:Int)=true:=Pl.jon hok h2 (Pl.Xv S) (by have h9:=hfit.2.2.2.1; omega)
    replace hm:=hm.Zp hZ
    refine au 4 ?_
    refine JS (.pure 0 (.pure 1 (.pure 2 (.pure 3 (.pure 4 (.pure 5 (.pure 6 (.pure 7 (.pure 8 (.pure 9 (.pure 10 (.pure 11 (.pure 12 (.pure 13 (.pure 14 (.pure 17 (.act2 15 (.pure 16 (.act 18 (.cut (.act 19 (.pure 20 .done))))) 18 (.act 15 (.pure 16 (.cut (.act 19 (.pure 20 .done)))))))))))))))))))))) No mix (by kernel_rfl) hm fun w hw hm0 hh=>?_
    have hm:=hm0
    refine au 13 ?_
    refine Ja rfl rfl (y_rem rfl rfl (by omega) rfl) ?_
    refine Ja rfl rfl (JX rfl is55 it3 hmod) ?_
    refine au 1 ?_
    refine QN ?_ ?_
    ·
     refine cB rfl rfl rfl (jr_slot D m Z _ (Jr.right (A:=[_,_,_,_,_]) hm.Jz) hz f N b hb hN (Pl.Jo S) hin) hm hh fun w hm hh=>?_
     refine Ja rfl rfl (QF rfl fv32_0 rfl) ?_
     refine Jb (l:=[_]) rfl rfl sl88.h z22.h rfl rfl rfl rfl rfl rfl rfl hm hh fun m2 w hg_m2 hm hh=>?_
     refine au 1 ?_
     refine cT rfl rfl rfl (f_write D m Z (Pl.jat D f N (Pl.Jo S)) _ 1 [⟨p_z,cap_z,(Pl.renc (Pl.jmk S k cu of BB))⟩] (Pl.renc (Pl.jmk S k cu of BB)) _ (Jr.right (A:=[_,_,_,_,_,_]) hm.Jz) hz hon (Rd.JL (hm.get (k:=0) rfl)) (fun s hs=>by rw [Lf.1 hs]; exact ha_z.rd hm 1 rfl) (by simp) (by simp) (by rw [hEb]; omega) hcl) fun v w hR=>?_
     obtain ⟨rfl,Z2,hz2,hmc⟩:=hR
     replace hm:=Mem.JQ (A:=[_,_,_,_,_,_]) hm hmc
     have hws:=(Pl.Zu (Pl.jat D f N (Pl.Jo S)) (Pl.renc (Pl.jmk S k cu of BB)) (Pl.sN D.sz (Pl.jat D f N (Pl.Jo S)) (Pl.renc (Pl.jmk S k cu of BB)).length) (Pl.sF D.sz (Pl.jat D f N (Pl.Jo S)) (Pl.renc (Pl.jmk S k cu of BB)).length) D hok (by have:=Pl.XZ (sz:=D.sz) (a:=(Pl.jat D f N (Pl.Jo S))) (b:=(Pl.renc (Pl.jmk S k cu of BB)).length) o1 (show _≤D.cnt*D.sz by have:=(Pl.JJ.1 hon).2.2.2; omega) o3; omega)).2.2.2
     have hsn:=Pl.XZ (sz:=D.sz) (a:=(Pl.jat D f N (Pl.Jo S))) (b:=(Pl.renc (Pl.jmk S k cu of BB)).length) o1 (show _≤D.cnt*D.sz by have:=(Pl.JJ.1 hon).2.2.2; omega) o3
     obtain ⟨⟨e1,D1⟩,hW⟩:∃ x:Int×Pl.Dv,(Pl.wrS (Pl.jat D f N (Pl.Jo S)) (Pl.renc (Pl.jmk S k cu of BB)) (Pl.sN D.sz (Pl.jat D f N (Pl.Jo S)) (Pl.renc (Pl.jmk S k cu of BB)).length) (Pl.sF D.sz (Pl.jat D f N (Pl.Jo S)) (Pl.renc (Pl.jmk S k cu of BB)).length) D)=x:=⟨_,rfl⟩
     rw [hW] at hz2 hws ⊢
     have hW2:Pl.jwr D f N S (Pl.jmk S k cu of BB)=(e1,D1):=hW
     have hg2:Pl.jgo D f N S (Pl.jmk S k cu of BB)=if e1≠0 then (e1,D1,S) else if Pl.QS D1≠0 then (Pl.QS D1,Pl.fDv D1,S) else (0,Pl.fDv D1,⟨IntKind.u64.wrap (S.nx+1),true,(Pl.jmk S k cu of BB)⟩):=by unfold Pl.jgo; rw [hW2]
     refine au 9 ?_
     refine cd (fun hc2=>?_) fun hc2=>?_
     ·
      simp only [dT] at hc2
      rw [LI hc2] at hg2
      refine au 9 ?_
      exact ⟨by rw [hgo,hg2],[_,_],Z2,by rw [hgo,hg2]; exact ⟨p_x,c_x,g_x,b_x,rfl,ha_x⟩,by rw [hgo,hg2]; exact hz2,(hm.Jp [4,5] 6 rfl)⟩
     ·
      simp only [dF] at hc2
      rw [LH hc2] at hg2
      refine au 10 ?_
      refine cT rfl rfl rfl (o_flush D1 m Z2 _ (Jr.right (A:=[_,_,_,_,_,_]) hm.Jz) hz2 (by simp only at hws; omega)) fun v w hR=>?_
      obtain ⟨rfl,Z3,hz3,hmc⟩:=hR
      replace hm:=Mem.JQ (A:=[_,_,_,_,_,_]) hm hmc
      refine au 9 ?_
      refine cd (fun hc3=>?_) fun hc3=>?_
      ·
       simp only [dT] at hc3
       rw [LI hc3] at hg2
       refine au 9 ?_
       exact ⟨by rw [hgo,hg2],[_,_],Z3,by rw [hgo,hg2]; exact ⟨p_x,c_x,g_x,b_x,rfl,ha_x⟩,by rw [hgo,hg2]; exact hz3,(hm.Jp [4,5] 6 rfl)⟩
      ·
       simp only [dF] at hc3
       rw [LH hc3] at hg2
       refine au 9 ?_
       refine st hm 4 fun w hm=>?_
       refine au 2 ?_
       refine st hm 4 fun w hm=>?_
       refine au 8 ?_
       refine Ja rfl rfl (J5 rfl rfl rfl) ?_
       refine au 2 ?_
       refine st hm 4 fun w hm=>?_
       refine au 9 ?_
       exact ⟨by rw [hgo,hg2],[_,_],Z3,by rw [hgo,hg2]; exact ⟨p_s,cap_s,g_s,b_s,rfl,ha_s⟩,by rw [hgo,hg2]; exact hz3,(hm.Jp [4,3] 6 rfl)⟩
    ·
     refine Jb (l:=[_]) rfl rfl sl88.h z22.h rfl rfl rfl rfl rfl rfl rfl hm hh fun m2 w hg_m2 hm hh=>?_
     refine cB rfl rfl rfl (jr_slot D m Z _ (Jr.right (A:=[_,_,_,_,_,_]) hm.Jz) hz f N b hb hN (Pl.Jo S) hin) hm hh fun w hm hh=>?_
     refine Ja rfl rfl (QF rfl fv32_0 rfl) ?_
     refine au 1 ?_
     refine cT rfl rfl rfl (f_write D m Z (Pl.jat D f N (Pl.Jo S)) _ 1 [⟨p_z,cap_z,(Pl.renc (Pl.jmk S k cu of BB))⟩] (Pl.renc (Pl.jmk S k cu of BB)) _ (Jr.right (A:=[_,_,_,_,_,_]) hm.Jz) hz hon (Rd.JL (hm.get (k:=0) rfl)) (fun s hs=>by rw [Lf.1 hs]; exact ha_z.rd hm 1 rfl) (by simp) (by simp) (by rw [hEb]; omega) hcl) fun v w hR=>?_
     obtain ⟨rfl,Z2,hz2,hmc⟩:=hR
     replace hm:=Mem.JQ (A:=[_,_,_,_,_,_]) hm hmc
     have hws:=(Pl.Zu (Pl.jat D f N (Pl.Jo S)) (Pl.renc (Pl.jmk S k cu of BB)) (Pl.sN D.sz (Pl.jat D f N (Pl.Jo S)) (Pl.renc (Pl.jmk S k cu of BB)).length) (Pl.sF D.sz (Pl.jat D f N (Pl.Jo S)) (Pl.renc (Pl.jmk S k cu of BB)).length) D hok (by have:=Pl.XZ (sz:=D.sz) (a:=(Pl.jat D f N (Pl.Jo S))) (b:=(Pl.renc (Pl.jmk S k cu of BB)).length) o1 (show _≤D.cnt*D.sz by have:=(Pl.JJ.1 hon).2.2.2; omega) o3; omega)).2.2.2
     have hsn:=Pl.XZ (sz:=D.sz) (a:=(Pl.jat D f N (Pl.Jo S))) (b:=(Pl.renc (Pl.jmk S k cu of BB)).length) o1 (show _≤D.cnt*D.sz by have:=(Pl.JJ.1 hon).2.2.2; omega) o3
     obtain ⟨⟨e1,D1⟩,hW⟩:∃ x:Int×Pl.Dv,(Pl.wrS (Pl.jat D f N (Pl.Jo S)) (Pl.renc (Pl.jmk S k cu of BB)) (Pl.sN D.sz (Pl.jat D f N (Pl.Jo S)) (Pl.renc (Pl.jmk S k cu of BB)).length) (Pl.sF D.sz (Pl.jat D f N (Pl.Jo S)) (Pl.renc (Pl.jmk S k cu of BB)).length) D)=x:=⟨_,rfl⟩
     rw [hW] at hz2 hws ⊢
     have hW2:Pl.jwr D f N S (Pl.jmk S k cu of BB)=(e1,D1):=hW
     have hg2:Pl.jgo D f N S (Pl.jmk S k cu of BB)=if e1≠0 then (e1,D1,S) else if Pl.QS D1≠0 then (Pl.QS D1,Pl.fDv D1,S) else (0,Pl.fDv D1,⟨IntKind.u64.wrap (S.nx+1),true,(Pl.jmk S k cu of BB)⟩):=by unfold Pl.jgo; rw [hW2]
     refine au 9 ?_
     refine cd (fun hc2=>?_) fun hc2=>?_
     ·
      simp only [dT] at hc2
      rw [LI hc2] at hg2
      refine au 9 ?_
      exact ⟨by rw [hgo,hg2],[_,_],Z2,by rw [hgo,hg2]; exact ⟨p_x,c_x,g_x,b_x,rfl,ha_x⟩,by rw [hgo,hg2]; exact hz2,(hm.Jp [4,5] 6 rfl)⟩
     ·
      simp only [dF] at hc2
      rw [LH hc2] at hg2
      refine au 10 ?_
      refine cT rfl rfl rfl (o_flush D1 m Z2 _ (Jr.right (A:=[_,_,_,_,_,_]) hm.Jz) hz2 (by simp only at hws; omega)) fun v w hR=>?_
      obtain ⟨rfl,Z3,hz3,hmc⟩:=hR
      replace hm:=Mem.JQ (A:=[_,_,_,_,_,_]) hm hmc
      refine au 9 ?_
      refine cd (fun hc3=>?_) fun hc3=>?_
      ·
       simp only [dT] at hc3
       rw [LI hc3] at hg2
       refine au 9 ?_
       exact ⟨by rw [hgo,hg2],[_,_],Z3,by rw [hgo,hg2]; exact ⟨p_x,c_x,g_x,b_x,rfl,ha_x⟩,by rw [hgo,hg2]; exact hz3,(hm.Jp [4,5] 6 rfl)⟩
      ·
       simp only [dF] at hc3
       rw [LH hc3] at hg2
       refine au 9 ?_
       refine st hm 4 fun w hm=>?_
       refine au 2 ?_
       refine st hm 4 fun w hm=>?_
       refine au 8 ?_
       refine Ja rfl rfl (J5 rfl rfl rfl) ?_
       refine au 2 ?_
       refine st hm 4 fun w hm=>?_
       refine au 9 ?_
       exact ⟨by rw [hgo,hg2],[_,_],Z3,by rw [hgo,hg2]; exact ⟨p_s,cap_s,g_s,b_s,rfl,ha_s⟩,by rw [hgo,hg2]; exact hz3,(hm.Jp [4,3] 6 rfl)⟩
 ·
  refine al hm hh fun m1 w hg_m1 hm hh=>?_
  refine ca rfl rfl rfl (Yc q cq ps _ (hq.Jj hm.to) (fun s hs=>(hps s hs).Jj hm.to) hl (by rw [hBB]; omega)) fun v w hR=>?_
  obtain ⟨p_s,n_s,cap_s,g_s,b_s,rfl,ha_s,hmc⟩:=hR
  refine ⟨hh.ext hmc.to,?_⟩
  replace hh:=hh.ext hmc.to
  replace hm:=hm.Jt hmc
  rw [hBB] at ha_s
  obtain rfl:n_s=BB.length:=ha_s.J0
  refine au 2 ?_
  refine st hm 1 fun w hm=>?_
  refine au 3 ?_
  cases hr:Pl.rright (Pl.jmk S k cu of BB)
  ·
   refine au 2 ?_
   refine cT rfl rfl rfl (rec_encF (Pl.jmk S k cu of BB) p_s cap_s _ (ha_s.rd hm 0 rfl) hkr hbl hr) fun v w hR=>?_
   obtain ⟨⟨q_,c_,rfl⟩,hE⟩:=hR
   replace hm:=hm.ext hE
   refine au 9 ?_
   refine dw [0,3,6,9,12,15,18,21,24,27,30,33,36] hm fun w hw hm0 hh hm=>?_
   refine au 1 ?_
   refine Ja rfl rfl (JA (c:=true) (XD rfl rfl) (by decide)) ?_
   refine au 22 ?_
   exact ⟨by rw [show (Pl.japp D f N b S (Pl.jmk S k cu of BB))=(2,D,S) from LH (fun h9=>by rw [hr] at h9; cases h9.1)],[_,_],Z,by rw [show (Pl.japp D f N b S (Pl.jmk S k cu of BB))=(2,D,S) from LH (fun h9=>by rw [hr] at h9; cases h9.1)]; exact ⟨p_x,c_x,g_x,b_x,rfl,ha_x⟩,by rw [show (Pl.japp D f N b S (Pl.jmk S k cu of BB))=(2,D,S) from LH (fun h9=>by rw [hr] at h9; cases h9.1)]; exact hz,(hm.Zp hZ).right⟩
  ·
   refine au 2 ?_
   refine cT rfl rfl rfl (rec_encT (Pl.jmk S k cu of BB) p_s cap_s _ (ha_s.rd hm 0 rfl) hkr hbl hr) fun v w hR=>?_
   obtain ⟨p_z,cap_z,g_z,b_z,rfl,ha_z,hmc⟩:=hR
   have hg_z:b_z.real=true→_:=fun hr=>(hmc.fresh _ Lo hr).resolve_left id
   replace hm:=hm.Jt hmc
   refine au 9 ?_
   refine dw [0,3,6,9,12,15,18,21,24,27,30,33,36] hm fun w hw hm0 hh hm=>?_
   refine au 1 ?_
   refine Ja rfl rfl (JA (c:=false) (XD rfl rfl) (by decide)) ?_
   refine au 13 ?_
   refine cd (fun hc1=>?_) fun hc1=>?_
   ·
    refine au 8 ?_
    exact ⟨by rw [show (Pl.japp D f N b S (Pl.jmk S k cu of BB))=(2,D,S) from LH (fun h9=>by have h8:(BB.length:Int)≤b:=h9.2; simp only [dT] at hc1; omega)],[_,_],Z,by rw [show (Pl.japp D f N b S (Pl.jmk S k cu of BB))=(2,D,S) from LH (fun h9=>by have h8:(BB.length:Int)≤b:=h9.2; simp only [dT] at hc1; omega)]; exact ⟨p_x,c_x,g_x,b_x,rfl,ha_x⟩,by rw [show (Pl.japp D f N b S (Pl.jmk S k cu of BB))=(2,D,S) from LH (fun h9=>by have h8:(BB.length:Int)≤b:=h9.2; simp only [dT] at hc1; omega)]; exact hz,(hm.Zp hZ).right⟩
   ·
    simp only [dF] at hc1
    have hgo:(Pl.japp D f N b S (Pl.jmk S k cu of BB))=Pl.jgo D f N S (Pl.jmk S k cu of BB):=LI ⟨hr,by show (BB.length:Int)≤b; omega⟩
    have hEl:=Pl.VC (Pl.jmk S k cu of BB)
    have hEb:(Pl.renc (Pl.jmk S k cu of BB)).length=44+BB.length:=hEl
    have hon:Pl.onD D (((Pl.jat D f N (Pl.Jo S)):Nat):Int) ((Pl.renc (Pl.jmk S k cu of BB)).length:Int)=true:=Pl.jon hok h2 (Pl.Xv S) (by have h9:=hfit.2.2.2.1; omega)
    replace hm:=hm.Zp hZ
    refine au 4 ?_
    refine JS (.pure 0 (.pure 1 (.pure 2 (.pure 3 (.pure 4 (.pure 5 (.pure 6 (.pure 7 (.pure 8 (.pure 9 (.pure 10 (.pure 11 (.pure 12 (.pure 13 (.pure 14 (.pure 17 (.act2 15 (.pure 16 (.act 18 (.cut (.act 19 (.pure 20 .done))))) 18 (.act 15 (.pure 16 (.cut (.act 19 (.pure 20 .done)))))))))))))))))))))) No mix (by kernel_rfl) hm fun w hw hm0 hh=>?_
    have hm:=hm0
    refine au 13 ?_
    refine Ja rfl rfl (y_rem rfl rfl (by omega) rfl) ?_
    refine Ja rfl rfl (JX rfl is55 it3 hmod) ?_
    refine au 1 ?_
    refine QN ?_ ?_
    ·
     refine cB rfl rfl rfl (jr_slot D m Z _ (Jr.right (A:=[_,_,_,_,_]) hm.Jz) hz f N b hb hN (Pl.Jo S) hin) hm hh fun w hm hh=>?_
     refine Ja rfl rfl (QF rfl fv32_0 rfl) ?_
     refine Jb (l:=[_]) rfl rfl sl88.h z22.h rfl rfl rfl rfl rfl rfl rfl hm hh fun m2 w hg_m2 hm hh=>?_
     refine au 1 ?_
     refine cT rfl rfl rfl (f_write D m Z (Pl.jat D f N (Pl.Jo S)) _ 1 [⟨p_z,cap_z,(Pl.renc (Pl.jmk S k cu of BB))⟩] (Pl.renc (Pl.jmk S k cu of BB)) _ (Jr.right (A:=[_,_,_,_,_,_]) hm.Jz) hz hon (Rd.JL (hm.get (k:=0) rfl)) (fun s hs=>by rw [Lf.1 hs]; exact ha_z.rd hm 1 rfl) (by simp) (by simp) (by rw [hEb]; omega) hcl) fun v w hR=>?_
     obtain ⟨rfl,Z2,hz2,hmc⟩:=hR
     replace hm:=Mem.JQ (A:=[_,_,_,_,_,_]) hm hmc
     have hws:=(Pl.Zu (Pl.jat D f N (Pl.Jo S)) (Pl.renc (Pl.jmk S k cu of BB)) (Pl.sN D.sz (Pl.jat D f N (Pl.Jo S)) (Pl.renc (Pl.jmk S k cu of BB)).length) (Pl.sF D.sz (Pl.jat D f N (Pl.Jo S)) (Pl.renc (Pl.jmk S k cu of BB)).length) D hok (by have:=Pl.XZ (sz:=D.sz) (a:=(Pl.jat D f N (Pl.Jo S))) (b:=(Pl.renc (Pl.jmk S k cu of BB)).length) o1 (show _≤D.cnt*D.sz by have:=(Pl.JJ.1 hon).2.2.2; omega) o3; omega)).2.2.2
     have hsn:=Pl.XZ (sz:=D.sz) (a:=(Pl.jat D f N (Pl.Jo S))) (b:=(Pl.renc (Pl.jmk S k cu of BB)).length) o1 (show _≤D.cnt*D.sz by have:=(Pl.JJ.1 hon).2.2.2; omega) o3
     obtain ⟨⟨e1,D1⟩,hW⟩:∃ x:Int×Pl.Dv,(Pl.wrS (Pl.jat D f N (Pl.Jo S)) (Pl.renc (Pl.jmk S k cu of BB)) (Pl.sN D.sz (Pl.jat D f N (Pl.Jo S)) (Pl.renc (Pl.jmk S k cu of BB)).length) (Pl.sF D.sz (Pl.jat D f N (Pl.Jo S)) (Pl.renc (Pl.jmk S k cu of BB)).length) D)=x:=⟨_,rfl⟩
     rw [hW] at hz2 hws ⊢
     have hW2:Pl.jwr D f N S (Pl.jmk S k cu of BB)=(e1,D1):=hW
     have hg2:Pl.jgo D f N S (Pl.jmk S k cu of BB)=if e1≠0 then (e1,D1,S) else if Pl.QS D1≠0 then (Pl.QS D1,Pl.fDv D1,S) else (0,Pl.fDv D1,⟨IntKind.u64.wrap (S.nx+1),true,(Pl.jmk S k cu of BB)⟩):=by unfold Pl.jgo; rw [hW2]
     refine au 9 ?_
     refine cd (fun hc2=>?_) fun hc2=>?_
     ·
      simp only [dT] at hc2
      rw [LI hc2] at hg2
      refine au 9 ?_
      exact ⟨by rw [hgo,hg2],[_,_],Z2,by rw [hgo,hg2]; exact ⟨p_x,c_x,g_x,b_x,rfl,ha_x⟩,by rw [hgo,hg2]; exact hz2,(hm.Jp [4,5] 6 rfl)⟩
     ·
      simp only [dF] at hc2
      rw [LH hc2] at hg2
      refine au 10 ?_
      refine cT rfl rfl rfl (o_flush D1 m Z2 _ (Jr.right (A:=[_,_,_,_,_,_]) hm.Jz) hz2 (by simp only at hws; omega)) fun v w hR=>?_
      obtain ⟨rfl,Z3,hz3,hmc⟩:=hR
      replace hm:=Mem.JQ (A:=[_,_,_,_,_,_]) hm hmc
      refine au 9 ?_
      refine cd (fun hc3=>?_) fun hc3=>?_
      ·
       simp only [dT] at hc3
       rw [LI hc3] at hg2
       refine au 9 ?_
       exact ⟨by rw [hgo,hg2],[_,_],Z3,by rw [hgo,hg2]; exact ⟨p_x,c_x,g_x,b_x,rfl,ha_x⟩,by rw [hgo,hg2]; exact hz3,(hm.Jp [4,5] 6 rfl)⟩
      ·
       simp only [dF] at hc3
       rw [LH hc3] at hg2
       refine au 9 ?_
       refine st hm 4 fun w hm=>?_
       refine au 2 ?_
       refine st hm 4 fun w hm=>?_
       refine au 8 ?_
       refine Ja rfl rfl (J5 rfl rfl rfl) ?_
       refine au 2 ?_
       refine st hm 4 fun w hm=>?_
       refine au 9 ?_
       exact ⟨by rw [hgo,hg2],[_,_],Z3,by rw [hgo,hg2]; exact ⟨p_s,cap_s,g_s,b_s,rfl,ha_s⟩,by rw [hgo,hg2]; exact hz3,(hm.Jp [4,2] 6 rfl)⟩
    ·
     refine Jb (l:=[_]) rfl rfl sl88.h z22.h rfl rfl rfl rfl rfl rfl rfl hm hh fun m2 w hg_m2 hm hh=>?_
     refine cB rfl rfl rfl (jr_slot D m Z _ (Jr.right (A:=[_,_,_,_,_,_]) hm.Jz) hz f N b hb hN (Pl.Jo S) hin) hm hh fun w hm hh=>?_
     refine Ja rfl rfl (QF rfl fv32_0 rfl) ?_
     refine au 1 ?_
     refine cT rfl rfl rfl (f_write D m Z (Pl.jat D f N (Pl.Jo S)) _ 1 [⟨p_z,cap_z,(Pl.renc (Pl.jmk S k cu of BB))⟩] (Pl.renc (Pl.jmk S k cu of BB)) _ (Jr.right (A:=[_,_,_,_,_,_]) hm.Jz) hz hon (Rd.JL (hm.get (k:=0) rfl)) (fun s hs=>by rw [Lf.1 hs]; exact ha_z.rd hm 1 rfl) (by simp) (by simp) (by rw [hEb]; omega) hcl) fun v w hR=>?_
     obtain ⟨rfl,Z2,hz2,hmc⟩:=hR
     replace hm:=Mem.JQ (A:=[_,_,_,_,_,_]) hm hmc
     have hws:=(Pl.Zu (Pl.jat D f N (Pl.Jo S)) (Pl.renc (Pl.jmk S k cu of BB)) (Pl.sN D.sz (Pl.jat D f N (Pl.Jo S)) (Pl.renc (Pl.jmk S k cu of BB)).length) (Pl.sF D.sz (Pl.jat D f N (Pl.Jo S)) (Pl.renc (Pl.jmk S k cu of BB)).length) D hok (by have:=Pl.XZ (sz:=D.sz) (a:=(Pl.jat D f N (Pl.Jo S))) (b:=(Pl.renc (Pl.jmk S k cu of BB)).length) o1 (show _≤D.cnt*D.sz by have:=(Pl.JJ.1 hon).2.2.2; omega) o3; omega)).2.2.2
     have hsn:=Pl.XZ (sz:=D.sz) (a:=(Pl.jat D f N (Pl.Jo S))) (b:=(Pl.renc (Pl.jmk S k cu of BB)).length) o1 (show _≤D.cnt*D.sz by have:=(Pl.JJ.1 hon).2.2.2; omega) o3
     obtain ⟨⟨e1,D1⟩,hW⟩:∃ x:Int×Pl.Dv,(Pl.wrS (Pl.jat D f N (Pl.Jo S)) (Pl.renc (Pl.jmk S k cu of BB)) (Pl.sN D.sz (Pl.jat D f N (Pl.Jo S)) (Pl.renc (Pl.jmk S k cu of BB)).length) (Pl.sF D.sz (Pl.jat D f N (Pl.Jo S)) (Pl.renc (Pl.jmk S k cu of BB)).length) D)=x:=⟨_,rfl⟩
     rw [hW] at hz2 hws ⊢
     have hW2:Pl.jwr D f N S (Pl.jmk S k cu of BB)=(e1,D1):=hW
     have hg2:Pl.jgo D f N S (Pl.jmk S k cu of BB)=if e1≠0 then (e1,D1,S) else if Pl.QS D1≠0 then (Pl.QS D1,Pl.fDv D1,S) else (0,Pl.fDv D1,⟨IntKind.u64.wrap (S.nx+1),true,(Pl.jmk S k cu of BB)⟩):=by unfold Pl.jgo; rw [hW2]
     refine au 9 ?_
     refine cd (fun hc2=>?_) fun hc2=>?_
     ·
      simp only [dT] at hc2
      rw [LI hc2] at hg2
      refine au 9 ?_
      exact ⟨by rw [hgo,hg2],[_,_],Z2,by rw [hgo,hg2]; exact ⟨p_x,c_x,g_x,b_x,rfl,ha_x⟩,by rw [hgo,hg2]; exact hz2,(hm.Jp [4,5] 6 rfl)⟩
     ·
      simp only [dF] at hc2
      rw [LH hc2] at hg2
      refine au 10 ?_
      refine cT rfl rfl rfl (o_flush D1 m Z2 _ (Jr.right (A:=[_,_,_,_,_,_]) hm.Jz) hz2 (by simp only at hws; omega)) fun v w hR=>?_
      obtain ⟨rfl,Z3,hz3,hmc⟩:=hR
      replace hm:=Mem.JQ (A:=[_,_,_,_,_,_]) hm hmc
      refine au 9 ?_
      refine cd (fun hc3=>?_) fun hc3=>?_
      ·
       simp only [dT] at hc3
       rw [LI hc3] at hg2
       refine au 9 ?_
       exact ⟨by rw [hgo,hg2],[_,_],Z3,by rw [hgo,hg2]; exact ⟨p_x,c_x,g_x,b_x,rfl,ha_x⟩,by rw [hgo,hg2]; exact hz3,(hm.Jp [4,5] 6 rfl)⟩
      ·
       simp only [dF] at hc3
       rw [LH hc3] at hg2
       refine au 9 ?_
       refine st hm 4 fun w hm=>?_
       refine au 2 ?_
       refine st hm 4 fun w hm=>?_
       refine au 8 ?_
       refine Ja rfl rfl (J5 rfl rfl rfl) ?_
       refine au 2 ?_
       refine st hm 4 fun w hm=>?_
       refine au 9 ?_
       exact ⟨by rw [hgo,hg2],[_,_],Z3,by rw [hgo,hg2]; exact ⟨p_s,cap_s,g_s,b_s,rfl,ha_s⟩,by rw [hgo,hg2]; exact hz3,(hm.Jp [4,2] 6 rfl)⟩
def Pl.jla(S:Pl.Jn):Pl.Rc:=if S.has=true then S.la else Pl.rc0
theorem j_last(m f:Nat)(b:Int)(k:Int)(S:Pl.Jn)(j:Nat)(Zj:List (Nat×Blk))(w0:World)(hO:Jr w0 Zj)(hj:JZ 271 5 m (f:Int) b k S j Zj)(hl:S.la.bs.length≤140737488355328):C Tryz.prog 147 [.pointer (some ⟨j,0,none⟩)] w0 fun v w'=>∃ q c g bb,v=.tuple ⟨[.agg ⟨rcV (Pl.jla S) q (Pl.jla S).bs.length c⟩,.bool S.has]⟩∧Acc 5 1 q (Pl.jla S).bs.length c ((Pl.jla S).bs.flatMap Jk) g bb∧Mem w0 w' No [(g,bb)]:=by
 obtain ⟨p_x,c_x,g_x,b_x,rfl,ha_x⟩:=hj
 have hJ:=hO.get (k:=0) rfl
 have hx:=ha_x.rdO hO (by simp)
 refine C_o Tryz.func147 fun κ _ Je Jc hm=>?_
 refine au 2 ?_
 refine aT hm fun m1 w hm=>?_
 refine au 17 ?_
 refine cd (fun hc0=>?_) fun hc0=>?_
 ·
  simp only [bE] at hc0
  have hjl:Pl.jla S=Pl.rc0:=by unfold Pl.jla; rw [hc0]; rfl
  refine au 3 ?_
  refine st hm 0 fun w hm=>?_
  refine au 6 ?_
  exact ⟨none,0,0,.gap,by rw [hjl,hc0]; rfl,by rw [hjl]; exact .nil _ _ _ _,(hm.drop (List.nil_sublist _)).JP⟩
 ·
  simp only [bF] at hc0
  have hjl:Pl.jla S=S.la:=by unfold Pl.jla; rw [LI hc0]
  refine au 7 ?_
  refine Ja rfl rfl (Jm (s:=5) (vs:=[_,_,_,_,_]) rfl ag225.h (Qo ((hm.to.same _ (Lb.1 hJ).1 id).trans hJ)) rfl) ?_
  refine aT hm fun m2 w hm=>?_
  refine st hm 0 fun w hm=>?_
  refine au 6 ?_
  refine cT rfl rfl rfl (V0 p_x c_x S.la.bs _ (hx.Jj hm.to) (by omega)) fun v w hR=>?_
  obtain ⟨p_z,cap_z,g_z,b_z,rfl,ha_z,hmc⟩:=hR
  have hg_z:b_z.real=true→_:=fun hr=>(hmc.fresh _ Lo hr).resolve_left id
  replace hm:=hm.Jt hmc
  refine au 1 ?_
  refine st hm 1 fun w hm=>?_
  refine au 5 ?_
  refine st hm 2 fun w hm=>?_
  refine au 5 ?_
  exact ⟨p_z,cap_z,g_z,b_z,by rw [hjl,hc0]; rfl,by rw [hjl]; exact ha_z,(hm.pick [0] rfl)⟩
theorem o_newN(a c:Nat)(q:Option Addr)(cq:Nat)(ps:List SB)(w0:World)(hq:Rd w0 q (ps.flatMap encS))(hps:∀ s∈ps,Rd w0 s.p (s.bs.flatMap Jk))(hl:ps.length≤4611686018427387903)(hb:(ps.flatMap (·.bs)).length≤140737488355328)(BB:List UInt8)(hBB:ps.flatMap (·.bs)=BB)(hr:Pl.right a c BB.length=true):C Tryz.prog 46 [.int .i64 (a:Int),.int .i64 (c:Int),.slice q ps.length cq] w0 fun v w'=>∃ m Z,v=.pointer (some ⟨m,0,none⟩)∧JV 112 258 5 (Pl.nDv a c BB) m Z∧Mem w0 w' No Z:=o_new a c q cq ps w0 hq hps hl hb BB hBB hr
theorem y_check(D:Pl.Dv)(m:Nat)(Z:List (Nat×Blk))(w0:World)(hZ:Jr w0 Z)(hz:JV 112 258 5 D m Z)(x2 x3 fl x5 x6 k:Int)(hk:k≤(D.cnt:Int)):C Tryz.prog 47 [.agg ⟨[.int .i64 (D.sz:Int),.int .i64 x2,.int .i64 x3,.int .i64 fl,.int .i64 x5,.int .i64 x6,.int .i64 k]⟩,.pointer (some ⟨m,0,none⟩)] w0 fun v w'=>v=.int .i64 0∧Ext No w0 w':=by
 refine C_o Tryz.func47 fun κ _ Je Jc hm=>?_
 refine au 2 ?_
 refine bT hm fun m1 w hm=>?_
 refine au 14 ?_
 refine dw [0,6,9,4,12,15] hm fun w hw hm0 hh hm=>?_
 refine au 3 ?_
 refine cB rfl rfl rfl (Xt D m Z _ (hZ.ext hm.to) hz) hm hh fun w hm hh=>?_
 refine Ja rfl rfl (JA (c:=false) (XD rfl rfl) (LN (fun h=>h rfl))) ?_
 refine au 5 ?_
 refine dw [0,6,9,4,12,15] hm fun w hw hm0 hh hm=>?_
 refine au 3 ?_
 refine cB rfl rfl rfl (X6 D m Z _ (hZ.ext hm.to) hz) hm hh fun w hm hh=>?_
 refine Ja rfl rfl (JA (c:=false) (VO rfl rfl) (LN (by omega))) ?_
 refine au 14 ?_
 exact ⟨rfl,hm.to⟩
theorem y_prepC(a c:Nat)(x2 x3 fl x5 x6 k x:Int)(q:Option Addr)(cq:Nat)(ps:List SB)(BB:List UInt8)(w0:World)(hq:Rd w0 q (ps.flatMap encS))(hps:∀ s∈ps,Rd w0 s.p (s.bs.flatMap Jk))(hl:ps.length≤4611686018427387903)(hBB:ps.flatMap (·.bs)=BB)(hb:BB.length≤140737488355328)(h0:0≤x)(hfl:(BB.length:Int)≤fl)(hkc:k+x=(c:Int))(hr:Pl.right (a:Int) (c:Int) BB.length=true):C Tryz.prog 23 [.agg ⟨[.int .i64 (a:Int),.int .i64 x2,.int .i64 x3,.int .i64 fl,.int .i64 x5,.int .i64 x6,.int .i64 k]⟩,.int .i64 x,.slice q ps.length cq] w0 fun v w'=>∃ m Z,v=.tuple ⟨[.pointer (some ⟨m,0,none⟩),.int .i64 0]⟩∧JV 112 258 5 (Pl.nDv a c BB) m Z∧Mem w0 w' No Z:=by
 obtain ⟨r1,r2,r3,r4⟩:=rightB hr
 have hane:a≠0:=by omega
 refine C_o Tryz.func23 fun κ _ Je Jc hm=>?_
 refine au 2 ?_
 refine bT hm fun m1 w hm=>?_
 refine au 7 ?_
 refine cT rfl rfl rfl (Yc q cq ps _ (hq.Jj hm.to) (fun s hs=>(hps s hs).Jj hm.to) hl (by rw [hBB]; exact hb)) fun v w hR=>?_
 obtain ⟨p_s,n_s,cap_s,g_s,b_s,rfl,ha_s,hmc⟩:=hR
 have hns:=ha_s.J0
 replace hm:=hm.Jt hmc
 rw [hBB] at ha_s hns
 subst hns
 refine au 7 ?_
 refine Ja rfl rfl (JA (c:=false) (VO rfl rfl) (LN (by omega))) ?_
 refine au 6 ?_
 refine Ja rfl rfl (JA (c:=false) (XE rfl rfl) (LN (by omega))) ?_
 refine au 13 ?_
 refine Ja rfl rfl (J5 rfl rfl ((LM IntKind.i64.wrap hkc).trans (Ql (by omega) (by omega)))) ?_
 refine au 1 ?_
 refine Jb (l:=[_]) rfl rfl sl88.h z22.h rfl rfl rfl rfl rfl rfl rfl hm trivial fun m2 w hg_m2 hm hh=>?_
 refine cT rfl rfl rfl (o_newN a c _ 1 [⟨p_s,cap_s,BB⟩] _ (Rd.JL (hm.get (k:=0) rfl)) (fun s9 hs9=>by rw [Lf.1 hs9]; exact ha_s.rd hm 1 rfl) (by simp) (by simp; omega) BB (by simp) hr) fun v w hR=>?_
 obtain ⟨m,Z,rfl,hz,hmc⟩:=hR
 replace hm:=hm.XR hmc
 refine au 13 ?_
 refine Ja rfl rfl (JA (c:=false) (y_eqF rfl rfl fl34 rfl rfl) (by simp [eqL,lfEq,hane])) ?_
 refine au 4 ?_
 refine Qf rfl rfl rfl rfl go47 (y_check (Pl.nDv a c BB) m Z _ (Jr.right (A:=[_,_,_]) hm.Jz) hz x2 x3 fl x5 x6 k (show k≤(c:Int) by omega)) fun v w hR=>?_
 obtain ⟨rfl,hE⟩:=hR
 refine ⟨trivial,?_⟩
 replace hm:=hm.ext hE
 refine Ja rfl rfl (JA (c:=false) (XD rfl rfl) (by decide)) ?_
 refine au 15 ?_
 exact ⟨m,Z,rfl,hz,(hm.Jp [] 3 rfl)⟩
theorem r1_has(a b x:Int)(w0:World)(h:Pl.I64 (a+b)):C Tryz.prog 56 [.agg ⟨[.int .i64 a,.int .i64 b]⟩,.int .i64 x] w0 fun v w'=>v=.bool (decide (a≤x)&&decide (x<a+b))∧Ext No w0 w':=by
 refine C_o Tryz.func56 fun κ _ Je Jc hm=>?_
 refine au 2 ?_
 refine bT hm fun m1 w hm=>?_
 refine au 15 ?_
 refine JK rfl rfl rfl (fun hc=>(J5 (gx hc rfl) (gx hc rfl) (Ql (by omega) (by omega)))) ?_
 refine au 7 ?_
 exact ⟨rfl,hm.to⟩
theorem r5_has(c:Pl.Cm)(p:Option Addr)(cap:Nat)(x:Int)(w0:World)(h:Pl.I64 (c.to+Pl.clen c)):C Tryz.prog 38 [.agg ⟨cmV c p c.bs.length cap⟩,.int .i64 x] w0 fun v w'=>v=.bool (Pl.hasB c x)∧Ext No w0 w':=by
 refine C_o Tryz.func38 fun κ _ Je Jc hm=>?_
 refine au 2 ?_
 refine bT hm fun m1 w hm=>?_
 refine au 6 ?_
 refine cA rfl rfl rfl (Y6 _ _ _ _) hm fun w hm=>?_
 refine au 1 ?_
 refine cA rfl rfl rfl (r1_has c.to (Pl.clen c) x _ h) hm fun w hm=>?_
 refine au 5 ?_
 exact ⟨rfl,hm.to⟩
theorem r5_few(oo nn:Int)(H:Nat→UInt8)(q:Option Addr)(cq:Nat)(cs:List CmdV)(w0:World)(hq:Rd w0 q (cs.flatMap JM))(hdl:cs.length≤4611686018427387903):C Tryz.prog 30 [.agg ⟨dlV oo nn H q cs.length cq⟩] w0 fun v w'=>v=.bool (cs.all (fun c=>decide (c.d.bs.length≤300))&&decide (cs.length≤40))∧Ext No w0 w':=by
 refine C_o Tryz.func30 fun κ _ Je Jc hm=>?_
 refine au 2 ?_
 refine bT hm fun m1 w hm=>?_
 refine au 10 ?_
 refine Jg (ι:=Nat) rfl (ks:=[1]) (.cons rfl .nil) (fun k=>[(3,.int .i64 k)]) (fun k w=>Mem w0 w No [(m1,.row 26 (dlV oo nn H q cs.length cq))]∧k≤cs.length∧∀ (j:Nat) c,j<k→cs[j]?=some c→decide (c.d.bs.length≤300)=true) (fun k=>cs.length-k) 0 (⟨(hm.pick [0] rfl),LL _,fun _ _ h=>absurd h (Nat.not_lt_zero _)⟩) ⟨rfl,trivial⟩ (fun k w hM=>?_)
 obtain ⟨hm,hk,hno⟩:=hM
 refine au 10 ?_
 refine cd (fun hc0=>?_) fun hc0=>?_
 ·
  simp only [dT] at hc0
  obtain ⟨c,hi⟩:∃ y_,cs[k]?=some y_:=⟨_,La (by omega)⟩
  obtain ⟨qb,qo,rfl⟩:=hq.atI Jf (by decide) hi
  refine au 11 ?_
  refine Ja rfl rfl (Yr rfl sc22.h (hq.Jj hm.to).nt Jf hi rfl) ?_
  refine au 4 ?_
  refine cd (fun hc1=>?_) fun hc1=>?_
  ·
   simp only [bA,bB,bC,bD,bE,bF,dT,dF] at hc1
   refine au 12 ?_
   exact ⟨by rw [Pl.notall hi (LN (by omega))]; rfl,hm.to⟩
  ·
   simp only [bA,bB,bC,bD,bE,bF,dT,dF] at hc1
   refine au 8 ?_
   refine next (k+1) (by omega) ⟨(hm.pick [0] rfl),by omega,fun j d hj hd=>?_⟩ ⟨nx k,rfl,trivial⟩
   rcases L7 j k with h | h
   · exact hno j d h hd
   · obtain rfl:j=k:=by omega
     rw [hi] at hd; cases hd; exact LQ (by omega)
 ·
  simp only [dF] at hc0
  have hke:k=cs.length:=by omega
  subst hke
  refine au 16 ?_
  exact ⟨by rw [Pl.alls hno,Bool.true_and,Bool.eq_iff_iff.2 (by simp only [dT]; omega:decide (cs.length≤40)=true↔decide ((cs.length:Int)≤40)=true)],hm.to⟩
theorem r5_single(oo nn:Int)(H:Nat→UInt8)(q:Option Addr)(cq:Nat)(cs:List CmdV)(c:Pl.Cm)(p:Option Addr)(cap:Nat)(w0:World)(hk:Pl.okCm c)(hl:c.bs.length≤9223372036854775807):C Tryz.prog 84 [.agg ⟨dlV oo nn H q cs.length cq⟩,.agg ⟨cmV c p c.bs.length cap⟩] w0 fun v w'=>v=.int .i64 (Pl.single oo nn c)∧Ext No w0 w':=by
 refine C_o Tryz.func84 fun κ _ Je Jc hm=>?_
 refine au 2 ?_
 refine bT hm fun m1 w hm=>?_
 refine bT hm fun m2 w hm=>?_
 refine au 6 ?_
 refine cA rfl rfl rfl (r4_check c p cap _ hk hl) hm fun w hm=>?_
 refine au 10 ?_
 refine cd (fun hc0=>?_) fun hc0=>?_
 ·
  simp only [dT] at hc0
  refine au 9 ?_
  exact ⟨by unfold Pl.single; rw [LI (by simpa using hc0)],hm.to⟩
 ·
  simp only [dF,ne_eq,Decidable.not_not] at hc0
  have hck:=Pl.Jl hc0
  refine au 13 ?_
  refine JK rfl rfl rfl (fun hc=>(J5 (gx hc rfl) (gx hc rfl) (Ql (by omega) (by omega)))) ?_
  refine au 6 ?_
  refine cd (fun hc1=>?_) fun hc1=>?_
  ·
   refine au 8 ?_
   exact ⟨by unfold Pl.single; rw [LH (by simpa using hc0),LI (by simpa using hc1)],hm.to⟩
  ·
   refine au 4 ?_
   refine dw [0,3,6,15,18,10,12,21] hm fun w hw hm0 hh hm=>?_
   refine au 5 ?_
   refine cB rfl rfl rfl (r4_len c p cap _) hm hh fun w hm hh=>?_
   refine au 4 ?_
   refine cd (fun hc2=>?_) fun hc2=>?_
   ·
    refine au 8 ?_
    exact ⟨by unfold Pl.single; rw [LH (by simpa using hc0),LH (by simpa using hc1),LI (by simpa using hc2)],hm.to⟩
   ·
    refine au 9 ?_
    exact ⟨by unfold Pl.single; rw [LH (by simpa using hc0),LH (by simpa using hc1),LH (by simpa using hc2)],hm.to⟩
theorem r5_find(oo nn:Int)(H:Nat→UInt8)(q:Option Addr)(cq:Nat)(cs:List CmdV)(x:Int)(w0:World)(hq:Rd w0 q (cs.flatMap JM))(hdl:cs.length≤4611686018427387903)(hr:∀ c∈cs,Pl.I64 (c.cm.to+Pl.clen c.cm)):C Tryz.prog 19 [.agg ⟨dlV oo nn H q cs.length cq⟩,.int .i64 x] w0 fun v w'=>v=.int .i64 (Pl.fnd (cs.map CmdV.cm) x)∧Ext No w0 w':=by
 refine C_o Tryz.func19 fun κ _ Je Jc hm=>?_
 refine au 2 ?_
 refine bT hm fun m1 w hm=>?_
 refine au 10 ?_
 refine Jg (ι:=Nat) rfl (ks:=[1,2]) (.cons rfl (.cons rfl .nil)) (fun k=>[(5,.int .i64 k)]) (fun k w=>Mem w0 w No [(m1,.row 26 (dlV oo nn H q cs.length cq))]∧k≤cs.length∧∀ (j:Nat) c,j<k→cs[j]?=some c→Pl.hasB c.cm x=false) (fun k=>cs.length-k) 0 (⟨(hm.pick [0] rfl),LL _,fun _ _ h=>absurd h (Nat.not_lt_zero _)⟩) ⟨rfl,trivial⟩ (fun k w hM=>?_)
 obtain ⟨hm,hk,hno⟩:=hM
 refine au 10 ?_
 refine cd (fun hc0=>?_) fun hc0=>?_
 ·
  simp only [dT] at hc0
  obtain ⟨c,hi⟩:∃ y_,cs[k]?=some y_:=⟨_,La (by omega)⟩
  obtain ⟨qb,qo,rfl⟩:=hq.atI Jf (by decide) hi
  have hrc:=hr c (Ld hi)
  refine au 10 ?_
  refine Ja rfl rfl (JU rfl ag60.h (hq.Jj hm.to).nt Jf hi) ?_
  refine au 1 ?_
  refine cA rfl rfl rfl (r5_has c.cm c.d.p c.d.cap x _ hrc) hm fun w hm=>?_
  refine au 2 ?_
  refine cd (fun hc1=>?_) fun hc1=>?_
  ·
   refine au 13 ?_
   exact ⟨by unfold Pl.fnd; rw [Pl.X8 (cmsGet hi) hc1 (fun j y hj hy=>by obtain ⟨d,hd,rfl⟩:=cmsOf hy; exact hno j d hj hd)],hm.to⟩
  ·
   refine au 8 ?_
   refine next (k+1) (by omega) ⟨(hm.pick [0] rfl),by omega,fun j d hj hd=>?_⟩ ⟨nx k,rfl,rfl,trivial⟩
   rcases L7 j k with h | h
   · exact hno j d h hd
   · obtain rfl:j=k:=by omega
     rw [hi] at hd; cases hd; exact hc1
 ·
  simp only [dF] at hc0
  have hke:k=cs.length:=by omega
  subst hke
  refine au 12 ?_
  exact ⟨by unfold Pl.fnd; rw [Pl.YN (fun j y hj hy=>by obtain ⟨d,hd,rfl⟩:=cmsOf hy; exact hno j d (by simpa using hj) hd)],hm.to⟩
theorem r5_gap(oo nn:Int)(H:Nat→UInt8)(q:Option Addr)(cq:Nat)(cs:List CmdV)(w0:World)(hq:Rd w0 q (cs.flatMap JM))(hdl:cs.length≤4611686018427387903)(hn:0≤nn)(hk:∀ c∈cs,okC w0 c)(hsg:∀ c∈cs,Pl.single oo nn c.cm=0):C Tryz.prog 86 [.agg ⟨dlV oo nn H q cs.length cq⟩] w0 fun v w'=>(∃ x,v=.int .i64 x∧(x<0→∀ (j:Nat),j<cs.length+1→Pl.eoff (cs.map CmdV.cm) j<nn→0≤Pl.fnd (cs.map CmdV.cm) (Pl.eoff (cs.map CmdV.cm) j))∧(0≤x→∃ y:Int,0≤y∧y<nn∧¬ 0≤Pl.fnd (cs.map CmdV.cm) y))∧Ext No w0 w':=by
 have hr:∀ c∈cs,Pl.I64 (c.cm.to+Pl.clen c.cm):=fun c hc=>by
  have:=Pl.Jl (Pl.Jw (hsg c hc)).1
  simp only [Pl.I64]; omega
 refine C_o Tryz.func86 fun κ _ Je Jc hm=>?_
 refine au 2 ?_
 refine bT hm fun m1 w hm=>?_
 refine au 15 ?_
 refine Jg (ι:=Nat×Int) rfl (ks:=[1,2]) (.cons rfl (.cons rfl .nil)) (fun x=>[(4,.int .i64 ((x.1:Int)-1)),(3,.int .i64 x.2)]) (fun x w=>Mem w0 w No [(m1,.row 26 (dlV oo nn H q cs.length cq))]∧x.1≤cs.length+1∧(x.2<0→∀ (j:Nat),j<x.1→Pl.eoff (cs.map CmdV.cm) j<nn→0≤Pl.fnd (cs.map CmdV.cm) (Pl.eoff (cs.map CmdV.cm) j))∧(0≤x.2→∃ y:Int,0≤y∧y<nn∧¬ 0≤Pl.fnd (cs.map CmdV.cm) y)) (fun x=>cs.length+1-x.1) (0,-1) (⟨(hm.pick [0] rfl),LL _,fun _ _ h=>absurd h (Nat.not_lt_zero _),fun h=>absurd h (by decide)⟩) ⟨rfl,rfl,trivial⟩ (fun x w hM=>?_)
 obtain ⟨hm,hk0,hno,hyes⟩:=hM
 refine au 10 ?_
 refine cd (fun hc0=>?_) fun hc0=>?_
 ·
  simp only [dT] at hc0
  refine au 2 ?_
  refine Xc (ι:=Int) rfl (ks:=[1,2,4]) (.cons rfl (.cons rfl (.cons rfl .nil))) (fun z=>[(3,.int .i64 z)]) (fun z w=>Mem w0 w No [(m1,.row 26 (dlV oo nn H q cs.length cq))]∧(z<0→∀ (j:Nat),j<x.1+1→Pl.eoff (cs.map CmdV.cm) j<nn→0≤Pl.fnd (cs.map CmdV.cm) (Pl.eoff (cs.map CmdV.cm) j))∧(0≤z→∃ y:Int,0≤y∧y<nn∧¬ 0≤Pl.fnd (cs.map CmdV.cm) y)) ?_ (fun z w hM=>?_)
  ·
   refine au 6 ?_
   refine Xc (ι:=Int) rfl (ks:=[1,2,3,4]) (.cons rfl (.cons rfl (.cons rfl (.cons rfl .nil)))) (fun off=>[(5,.int .i64 off)]) (fun off w=>Mem w0 w No [(m1,.row 26 (dlV oo nn H q cs.length cq))]∧off=Pl.eoff (cs.map CmdV.cm) x.1∧0≤off) ?_ (fun off w hM=>?_)
   ·
    refine au 6 ?_
    refine cd (fun hc1=>?_) fun hc1=>?_
    ·
     simp only [dT] at hc1
     obtain ⟨c,hi⟩:∃ y_,cs[((x.1:Int)-1).toNat]?=some y_:=⟨_,La (by omega)⟩
     obtain ⟨qb,qo,rfl⟩:=hq.atI Jf (by decide) hi
     have hcc:=Pl.Jl (Pl.Jw (hsg c (Ld hi))).1
     have k2:c.cm.to=c.to:=rfl
     rw [k2] at hcc
     have hoff:Pl.eoff (cs.map CmdV.cm) x.1=c.to+Pl.clen c.cm:=by
      obtain ⟨j,hj⟩:∃ j:Nat,x.1=j+1:=⟨x.1-1,by omega⟩
      have e:((x.1:Int)-1).toNat=j:=by omega
      rw [e] at hi
      rw [hj,Pl.eoff_succ (cmsGet hi)]; rfl
     refine dw [0,3,6,9,12,15,18,21,24,27,30,34,36,39] hm fun w hw hm0 hh hm=>?_
     refine au 5 ?_
     refine Ja rfl rfl (Yr rfl sc3.h (hq.Jj hm0.to).nd Jf hi rfl) ?_
     refine au 4 ?_
     refine Ja rfl rfl (JU rfl ag60.h (hq.Jj hm0.to).nd Jf hi) ?_
     refine cB rfl rfl rfl (r4_len c.cm c.d.p c.d.cap _) hm hh fun w hm hh=>?_
     refine au 3 ?_
     exact Qt _ ⟨(hm.pick [0] rfl),hoff.symm,by omega⟩ ⟨rfl,rfl,rfl,rfl,rfl,trivial⟩
    ·
     simp only [dF] at hc1
     have hoff:Pl.eoff (cs.map CmdV.cm) x.1=0:=by
      have e:x.1=0:=by omega
      rw [e]; rfl
     refine au 1 ?_
     exact Qt _ ⟨(hm.pick [0] rfl),hoff.symm,by omega⟩ ⟨rfl,rfl,rfl,rfl,rfl,trivial⟩
   ·
    obtain ⟨hm,hoff,hof0⟩:=hM
    refine au 7 ?_
    refine JK rfl rfl rfl (fun hc=>(Jm (s:=67) (vs:=dlV oo nn H _ cs.length cq) rfl ag26.h (hm.nt 0 rfl) rfl)) ?_
    refine au 1 ?_
    refine J1 rfl rfl rfl (fun hc=>(J8 (gx hc rfl) (J8 (gx hc rfl) QL))) go19 (fun hc=>(r5_find oo nn H _ cq cs _ _ (hq.Jj hm.to) hdl hr)) trivial fun w hE hh=>?_
    replace hm:=hm.ext hE
    refine au 6 ?_
    refine YD rfl rfl rfl (fun hc=>(Jx rfl)) ?_
    refine YD rfl rfl rfl (fun hc=>(Jx rfl)) ?_
    refine YD rfl rfl rfl (fun hc=>(VO (gx hc rfl) (gx hc rfl))) ?_
    refine JK rfl rfl rfl (fun hc=>(y_or (gx hc rfl) rfl (gvn hc rfl))) ?_
    refine au 3 ?_
    refine cd (fun hc2=>?_) fun hc2=>?_
    ·
     simp only [bA,bB,bC,bD,bE,bF,dT,dF] at hc2
     refine au 5 ?_
     exact Qt off ⟨(hm.pick [0] rfl),fun h=>absurd h (by omega),fun _=>⟨off,by omega,by omega,by omega⟩⟩ ⟨rfl,rfl,rfl,rfl,trivial⟩
    ·
     simp only [bA,bB,bC,bD,bE,bF,dT,dF] at hc2
     refine au 2 ?_
     refine Qt x.2 ⟨(hm.pick [0] rfl),fun h j hj hjn=>?_,hyes⟩ ⟨rfl,rfl,rfl,rfl,trivial⟩
     rcases L7 j x.1 with h1 | h1
     · exact hno h j h1 hjn
     · obtain rfl:j=x.1:=by omega
       rw [← hoff] at hjn ⊢; omega
  ·
   obtain ⟨hm,hno2,hyes2⟩:=hM
   refine au 5 ?_
   refine next (x.1+1,z) (by simp only; omega) ⟨(hm.pick [0] rfl),by simp only; omega,hno2,hyes2⟩ ⟨LM (fun x=>some (Value.int .i64 x)) (by simp only; omega),rfl,rfl,rfl,trivial⟩
 ·
  simp only [dF] at hc0
  have hke:x.1=cs.length+1:=by omega
  rw [hke] at hno
  refine au 13 ?_
  exact ⟨⟨_,rfl,hno,hyes⟩,hm.to⟩
theorem r5_check(oo nn:Int)(H:Nat→UInt8)(q:Option Addr)(cq:Nat)(cs:List CmdV)(w0:World)(h1:Pl.I64 oo)(h2:Pl.I64 nn)(hq:Rd w0 q (cs.flatMap JM))(hdl:cs.length≤4611686018427387903)(hok:∀ c∈cs,okC w0 c):C Tryz.prog 52 [.agg ⟨dlV oo nn H q cs.length cq⟩] w0 fun v w'=>(∃ e a,v=.tuple ⟨[.int .i64 e,.int .i64 a]⟩∧(e=0→Pl.VD oo nn (cs.map CmdV.cm))∧(e≠0→¬ Pl.VD oo nn (cs.map CmdV.cm)))∧Ext No w0 w':=by
 refine C_o Tryz.func52 fun κ _ Je Jc hm=>?_
 refine au 2 ?_
 refine bT hm fun m1 w hm=>?_
 refine au 6 ?_
 refine dw [0,3,6,9,12,15,18,21,24,27,30,34,36,39,42,45,48,52,54,57] hm fun w hw hm0 hh hm=>?_
 refine au 11 ?_
 refine J1 rfl rfl rfl (fun hc=>rfl) go53 (fun hc=>(r1_max _)) hh fun w hE hh=>?_
 replace hm:=hm.ext hE
 refine au 5 ?_
 refine J1 rfl rfl rfl (fun hc=>rfl) go53 (fun hc=>(r1_max _)) hh fun w hE hh=>?_
 replace hm:=hm.ext hE
 refine au 4 ?_
 refine cd (fun hc0=>?_) fun hc0=>?_
 ·
  refine au 9 ?_
  exact ⟨⟨_,_,rfl,fun h=>absurd h (by decide),fun _ hv=>by have:=hv.lens; simp at hc0; omega⟩,hm.to⟩
 ·
  simp only [bD,dF] at hc0
  refine au 9 ?_
  refine Jg (ι:=Nat) rfl (ks:=[1]) (.cons rfl .nil) (fun k=>[(4,.int .i64 k)]) (fun k w=>Mem w0 w No [(m1,.row 26 (dlV oo nn H q cs.length cq))]∧k≤cs.length∧∀ (j:Nat) c,j<k→cs[j]?=some c→Pl.single oo nn c.cm=0) (fun k=>cs.length-k) 0 (⟨(hm.pick [0] rfl),LL _,fun _ _ h=>absurd h (Nat.not_lt_zero _)⟩) ⟨rfl,trivial⟩ (fun k w hM=>?_)
  obtain ⟨hm,hk,hno⟩:=hM
  refine au 10 ?_
  refine cd (fun hc1=>?_) fun hc1=>?_
  ·
   simp only [dT] at hc1
   obtain ⟨c,hi⟩:∃ y_,cs[k]?=some y_:=⟨_,La (by omega)⟩
   obtain ⟨qb,qo,rfl⟩:=hq.atI Jf (by decide) hi
   have hokc:=hok c (Ld hi)
   have hcl:=hokc.2.2.2.2.le
   have hcx:=hokc.2.2.2.2.max
   refine au 5 ?_
   refine dw [0,3,6,9,12,15,2,19,21] hm fun w hw hm0 hh hm=>?_
   refine Ja rfl rfl (Jm (s:=67) (vs:=dlV oo nn H _ cs.length cq) rfl ag26.h (hm0.nd 0 rfl id) rfl) ?_
   refine au 4 ?_
   refine Ja rfl rfl (JU rfl ag60.h (hq.Jj hm0.to).nd Jf hi) ?_
   refine au 1 ?_
   refine cA rfl rfl rfl (r5_single oo nn H _ cq cs c.cm c.d.p c.d.cap _ hokc.cm (by have:c.cm.bs.length=c.d.bs.length:=rfl; omega)) hm fun w hm=>?_
   refine au 9 ?_
   refine cd (fun hc2=>?_) fun hc2=>?_
   ·
    refine au 15 ?_
    exact ⟨⟨_,_,rfl,fun h=>absurd h (by simpa using hc2),fun _ hv=>absurd (hv.one c.cm (Ln.2 ⟨c,Ld hi,rfl⟩)) (by simpa using hc2)⟩,hm.to⟩
   ·
    refine au 8 ?_
    refine next (k+1) (by omega) ⟨(hm.pick [0] rfl),by omega,fun j d hj hd=>?_⟩ ⟨nx k,rfl,trivial⟩
    rcases L7 j k with h | h
    · exact hno j d h hd
    · obtain rfl:j=k:=by omega
      rw [hi] at hd; cases hd; simpa using hc2
  ·
   simp only [dF] at hc1
   have hke:k=cs.length:=by omega
   subst hke
   have hone:∀ c∈cs,Pl.single oo nn c.cm=0:=fun c hc=>by
    obtain ⟨j,hj,e⟩:=LU hc
    exact hno j c (by omega) (by rw [← e]; exact La hj)
   refine au 12 ?_
   refine Jg (ι:=Nat) rfl (ks:=[1]) (.cons rfl .nil) (fun x=>[(6,.int .i64 x)]) (fun x w=>Mem w0 w No [(m1,.row 26 (dlV oo nn H q cs.length cq))]∧x≤cs.length∧∀ (i j:Nat) ci cj,j<i→i<x→cs[i]?=some ci→cs[j]?=some cj→Pl.dj ci.cm cj.cm) (fun x=>cs.length-x) 0 (⟨(hm.pick [0] rfl),LL _,fun _ _ _ _ _ h=>absurd h (Nat.not_lt_zero _)⟩) ⟨rfl,trivial⟩ (fun x w hM=>?_)
   obtain ⟨hm,hx0,hdis⟩:=hM
   refine au 10 ?_
   refine cd (fun hc3=>?_) fun hc3=>?_
   ·
    simp only [dT] at hc3
    obtain ⟨c,hi⟩:∃ y_,cs[x]?=some y_:=⟨_,La (by omega)⟩
    obtain ⟨qb,qo,rfl⟩:=hq.atI Jf (by decide) hi
    have hcc:=Pl.Jl (Pl.Jw (hone c (Ld hi))).1
    refine au 10 ?_
    refine Jg (ι:=Nat) rfl (ks:=[1,6]) (.cons rfl (.cons rfl .nil)) (fun y=>[(7,.int .i64 y)]) (fun y w=>Mem w0 w No [(m1,.row 26 (dlV oo nn H (some ⟨qb,qo,none⟩) cs.length cq))]∧y≤x∧∀ (j:Nat) cj,j<y→cs[j]?=some cj→Pl.dj c.cm cj.cm) (fun y=>x-y) 0 (⟨(hm.pick [0] rfl),LL _,fun _ _ h=>absurd h (Nat.not_lt_zero _)⟩) ⟨rfl,trivial⟩ (fun y w hM=>?_)
    obtain ⟨hm,hy0,hin⟩:=hM
    refine au 8 ?_
    refine cd (fun hc4=>?_) fun hc4=>?_
    ·
     simp only [dT] at hc4
     obtain ⟨d,hj⟩:∃ y_,cs[y]?=some y_:=⟨_,La (by omega)⟩
     have hcd:=Pl.Jl (Pl.Jw (hone d (Ld hj))).1
     refine au 5 ?_
     refine dw [0,3,6,9,12,18,21,24,27,30,16,2,34,37,39,42] hm fun w hw hm0 hh hm=>?_
     refine au 4 ?_
     refine Ja rfl rfl (JU rfl ag60.h (hq.Jj hm0.to).nd Jf hi) ?_
     refine au 4 ?_
     refine Ja rfl rfl (JU rfl ag60.h (hq.Jj hm0.to).nd Jf hj) ?_
     refine cB rfl rfl rfl (Y6 c.cm c.d.p c.d.cap _) hm hh fun w hm hh=>?_
     refine au 1 ?_
     refine cA rfl rfl rfl (Y6 d.cm d.d.p d.d.cap _) hm fun w hm=>?_
     refine cA rfl rfl rfl (r1_overlap c.cm.to (Pl.clen c.cm) d.cm.to (Pl.clen d.cm) _ (by omega) (by omega)) hm fun w hm=>?_
     refine Ja rfl rfl (QF rfl fv32_1 rfl) ?_
     refine au 3 ?_
     refine cd (fun hc5=>?_) fun hc5=>?_
     ·
      refine au 18 ?_
      exact ⟨⟨_,_,rfl,fun h=>absurd h (by decide),fun _ hv=>Pl.ovl_ndj (by simpa using hc5) (hv.dis x y _ _ (by omega) (cmsGet hi) (cmsGet hj))⟩,hm.to⟩
     ·
      refine au 8 ?_
      refine next (y+1) (by omega) ⟨(hm.pick [0] rfl),by omega,fun j cj hjy hcj=>?_⟩ ⟨nx y,rfl,rfl,trivial⟩
      rcases L7 j y with h | h
      · exact hin j cj h hcj
      · obtain rfl:j=y:=by omega
        rw [hj] at hcj; cases hcj; exact Pl.ovl_dj (by simpa using hc5) (by omega) (by omega)
    ·
     simp only [dF] at hc4
     have hye:x=y:=by omega
     subst hye
     refine au 11 ?_
     refine next (x+1) (by omega) ⟨(hm.pick [0] rfl),by omega,fun i j ci cj hji hix hci hcj=>?_⟩ ⟨nx x,rfl,trivial⟩
     rcases L7 i x with h | h
     · exact hdis i j ci cj hji h hci hcj
     · obtain rfl:i=x:=by omega
       rw [hi] at hci; cases hci; exact hin j cj (by omega) hcj
   ·
    simp only [dF] at hc3
    have hke:x=cs.length:=by omega
    subst hke
    refine au 7 ?_
    refine Ja rfl rfl (Jm (s:=67) (vs:=dlV oo nn H _ cs.length cq) rfl ag26.h (hm.nt 0 rfl) rfl) ?_
    refine cT rfl rfl rfl (r5_gap oo nn H _ cq cs _ (hq.Jj hm.to) hdl (by omega) (fun c hc=>okC.mono (hok c hc) hm.to) hone) fun v w hR=>?_
    obtain ⟨⟨x9,rfl,hg1,hg2⟩,hE⟩:=hR
    replace hm:=hm.ext hE
    refine au 10 ?_
    refine cd (fun hc6=>?_) fun hc6=>?_
    ·
     simp only [dT] at hc6
     refine au 10 ?_
     exact ⟨⟨_,_,rfl,fun h=>absurd h (by decide),fun _ hv=>by obtain ⟨y,h3,h4,h5⟩:=hg2 hc6; exact h5 (Pl.fnd_iff.2 (hv.cov y h3 h4))⟩,hm.to⟩
    ·
     simp only [dF] at hc6
     refine au 10 ?_
     exact ⟨⟨_,_,rfl,fun _=>⟨by omega,cmsAll fun j c hj hc=>hone c (Ld hc),fun i j ci cj hji hci hcj=>by obtain ⟨a,ha,rfl⟩:=cmsOf hci; obtain ⟨b,hb,rfl⟩:=cmsOf hcj; exact hdis i j a b hji (Le.1 ha).1 ha hb,fun y h3 h4=>by obtain ⟨c,hc,hb⟩:=Pl.cov_of (fun j hj=>hg1 (by omega) j (by simpa using Nat.lt_succ_of_le hj)) y.toNat (by omega); exact ⟨c,hc,by rw [Int.toNat_of_nonneg h3] at hb; exact hb⟩⟩,fun h=>absurd rfl h⟩,hm.to⟩
theorem r5_valid(oo nn:Int)(H:Nat→UInt8)(q:Option Addr)(cq:Nat)(cs:List CmdV)(w0:World)(h1:Pl.I64 oo)(h2:Pl.I64 nn)(hq:Rd w0 q (cs.flatMap JM))(hdl:cs.length≤4611686018427387903)(hok:∀ c∈cs,okC w0 c):C Tryz.prog 31 [.agg ⟨dlV oo nn H q cs.length cq⟩] w0 fun v w'=>v=.bool (Pl.vdB oo nn (cs.map CmdV.cm))∧Ext No w0 w':=by
 refine C_o Tryz.func31 fun κ _ Je Jc hm=>?_
 refine au 2 ?_
 refine bT hm fun m1 w hm=>?_
 refine au 5 ?_
 refine Ja rfl rfl (Jm (s:=67) (vs:=dlV oo nn H _ cs.length cq) rfl ag26.h (hm.nt 0 rfl) rfl) ?_
 refine cT rfl rfl rfl (r5_check oo nn H _ cq cs _ h1 h2 (hq.Jj hm.to) hdl (fun c hc=>okC.mono (hok c hc) hm.to)) fun v w hR=>?_
 obtain ⟨⟨e9,a9,rfl,hv1,hv2⟩,hE⟩:=hR
 replace hm:=hm.ext hE
 refine au 16 ?_
 have hb9:decide (e9=0)=Pl.vdB oo nn (cs.map CmdV.cm):=by
  by_cases he:e9=0
  · rw [Pl.vdB_iff.2 (hv1 he),he]; rfl
  · rw [Pl.vdB_f (hv2 he),LN he]
 exact ⟨LM Value.bool hb9,hm.to⟩
theorem r8_fits(oo nn:Int)(H:Nat→UInt8)(q:Option Addr)(cq:Nat)(cs:List CmdV)(r:Option Addr)(cr:Nat)(f:List UInt8)(w0:World)(h1:Pl.I64 oo)(h2:Pl.I64 nn)(hq:Rd w0 q (cs.flatMap JM))(hdl:cs.length≤4611686018427387903)(hok:∀ c∈cs,okC w0 c):C Tryz.prog 16 [.slice r f.length cr,.agg ⟨dlV oo nn H q cs.length cq⟩] w0 fun v w'=>v=.bool ((cs.all (fun c=>decide (c.d.bs.length≤300))&&decide (cs.length≤40))&&Pl.vdB oo nn (cs.map CmdV.cm)&&decide (oo=f.length)&&decide (nn≤3000))∧Ext No w0 w':=by
 refine C_o Tryz.func16 fun κ _ Je Jc hm=>?_
 refine au 2 ?_
 refine bT hm fun m1 w hm=>?_
 refine au 5 ?_
 refine Ja rfl rfl (Jm (s:=67) (vs:=dlV oo nn H _ cs.length cq) rfl ag26.h (hm.nt 0 rfl) rfl) ?_
 refine cA rfl rfl rfl (r5_few oo nn H q cq cs _ (hq.Jj hm.to) hdl) hm fun w hm=>?_
 refine au 1 ?_
 refine JK rfl rfl rfl (fun hc=>(Jm (s:=67) (vs:=dlV oo nn H _ cs.length cq) rfl ag26.h (hm.nt 0 rfl) rfl)) ?_
 refine J1 rfl rfl rfl (fun hc=>(J8 (gx hc rfl) QL)) go31 (fun hc=>(r5_valid oo nn H q cq cs _ h1 h2 (hq.Jj hm.to) hdl (fun c hc=>okC.mono (hok c hc) hm.to))) trivial fun w hE hh=>?_
 replace hm:=hm.ext hE
 refine au 5 ?_
 refine JK rfl rfl rfl (fun hc=>(y_len (gx hc rfl) rfl sl22.h)) ?_
 refine au 12 ?_
 exact ⟨rfl,hm.to⟩
end Go.Proofs.YtaehgpeenaomcaaGreat
