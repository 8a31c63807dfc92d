/- Part 15 of the proof of TopShapes: QtC QtD RfA LwA LwB LwC LwD LwE LwF. Conditions: the hypotheses of each theorem. -/
import Derived.Test.YtaehgpeenaomcaaGreatY13
import Derived.Test.YtaehgpeenaomcaaGreatChecked
set_option maxRecDepth 10000
set_option maxHeartbeats 4000000
set_option linter.unusedVariables false
set_option linter.unusedSimpArgs false
namespace Go.Proofs.YtaehgpeenaomcaaGreat
open Go Go.Cx
theorem m_make(ra:Addr)(cr:Nat)(f:List UInt8)(s:Option Addr)(c2:Nat)(gg:List UInt8)(k:Int)(w0:World)(hf:Rd w0 (some ra) (f.flatMap Jk))(hfl:f.length≤1000000∧f.length≤cr)(hgr:Rd w0 s (gg.flatMap Jk))(hgl:gg.length≤c2∧gg.length≤100000)(hgs:c2≠0→∀ ad,s=some ad→ad.spot=none)(hk:Pl.I64 k)(hgz:Gz w0):C Tryz.prog 14 [.slice (some ra) f.length cr,.slice s gg.length c2,.int .i64 k] w0 fun v w'=>∃ (ys:List CmdV) (p:Option Addr) (n cap g:Nat) (b:Blk) (B:List (Nat×Blk)),v=.agg ⟨dlV f.length gg.length (Pl.hh (Pl.sha f) (Pl.sha gg)) p n cap⟩∧Acc 60 5 p n cap (ys.flatMap JM) g b∧ys.map CmdV.cm=(Pl.mkC f gg k gg.length 0 0)∧(∀ y∈ys,Held B 5 y.d)∧Mem w0 w' No ((g,b)::B):=by
 refine C_o Tryz.func14 fun κ _ Je Jc hm=>?_
 refine au 2 ?_
 refine bT hm fun mn w hm=>?_
 refine aT hm fun m6 w hm=>?_
 refine au 6 ?_
 refine cT rfl rfl rfl (m_matcher k _ _ cr _) fun v w hR=>?_
 obtain ⟨mb,mo,rfl,hmc⟩:=hR
 replace hm:=hm.Jt hmc
 refine au 5 ?_
 refine aT hm fun ml w hm=>?_
 replace hm:=hm.JP
 have ha_a:=Acc.nil 60 5 none 0
 refine au 4 ?_
 refine aT hm fun mf w hm=>?_
 refine st hm 0 fun w hm=>?_
 refine au 15 ?_
 refine Jg (ι:=Nat×Nat×Nat×Ow×List CmdV×List (Nat×Blk)) rfl (ks:=[0,4,6,7,8,9,10]) (.cons rfl (.cons rfl (.cons rfl (.cons rfl (.cons rfl (.cons rfl (.cons rfl .nil))))))) (fun x=>[(11,.int .i64 (x.1:Int))]) (fun x w=>Mem w0 w No ((mb,.row 3 [.int .i64 k])::(mo,.row 22 [.slice (some ra) f.length cr])::(m6,.row 26 (dlV 0 0 (fun _=>0) none 0 0))::(x.2.2.2.1.g,x.2.2.2.1.b)::(mf,.row 3 [.int .i64 (x.2.1:Int)])::(ml,.row 24 [.slice x.2.2.2.1.p x.2.2.2.1.n x.2.2.2.1.cap])::(mn,.row 22 [.slice s gg.length c2])::x.2.2.2.2.2)∧Acc 60 5 x.2.2.2.1.p x.2.2.2.1.n x.2.2.2.1.cap (x.2.2.2.2.1.flatMap JM) x.2.2.2.1.g x.2.2.2.1.b∧(∀ y∈x.2.2.2.2.1,Held x.2.2.2.2.2 5 y.d)∧(∀ y∈x.2.2.2.2.1,okI y)∧(0,.gap)∈x.2.2.2.2.2∧x.2.2.2.2.1.map CmdV.cm++Pl.mkC f gg k x.2.2.1 x.1 x.2.1=(Pl.mkC f gg k gg.length 0 0)∧x.2.1≤x.1∧x.1≤gg.length∧gg.length≤x.1+x.2.2.1∧x.2.2.2.1.n+2*x.2.2.1≤2*gg.length) (fun x=>x.2.2.1) (0,0,gg.length,⟨none,0,0,0,.gap⟩,[],[(0,.gap)]) (⟨(hm.JP.pick [4,5,6,2,1,3,7,0] rfl),.nil _ _ _ _,by simp,by simp,by simp,rfl,LP _,LL _,by simp,by simp⟩) ⟨rfl,trivial⟩ (fun x w hM=>?_)
 obtain ⟨po,fr,fuel,⟨p_a,n_a,cap_a,g_a,b_a⟩,cs,B⟩:=x
 obtain ⟨hm,ha_a,hH,hOk,hgap,hT,hb1,hb2,hb3,hb4⟩:=hM
 simp only at hm ha_a hH hOk hgap hT hb1 hb2 hb3 hb4 ⊢
 refine au 9 ?_
 refine cd (fun hc0=>?_) fun hc0=>?_
 ·
  simp only [dT] at hc0
  obtain ⟨fu,hfu⟩:∃ y,fuel=y+1:=⟨fuel-1,by omega⟩
  have hmk:∀ p fr,Pl.mkC f gg k (fu+1) p fr=if p<gg.length then (if (Pl.mtF f k (gg.drop p)).1<0 then Pl.mkC f gg k fu (p+1) fr else Pl.flC gg p fr++(⟨1,p,(Pl.mtF f k (gg.drop p)).1,(Pl.mtF f k (gg.drop p)).2,[]⟩::Pl.mkC f gg k fu (p+(Pl.mtF f k (gg.drop p)).2.toNat) (p+(Pl.mtF f k (gg.drop p)).2.toNat))) else Pl.flC gg p fr:=fun _ _=>rfl
  have hdl:(gg.drop po).length=gg.length-po:=Lm
  have hca:=ha_a.QB Jf (by decide)
  refine au 8 ?_
  refine Ja rfl rfl (y_v (JE (ln:=po) (hn:=gg.length) rfl sl22.h ⟨_,rfl⟩ rfl (by omega) (by omega) (fun h=>hgs (by omega))) (show _=Value.slice (slp s c2 po 1) (gg.drop po).length (c2-po) by rw [hdl])) ?_
  refine Qf rfl rfl rfl rfl go50 (m_match mb mo k ra cr f _ (hm.get (k:=0) rfl) (hm.get (k:=1) rfl) (hf.Jj hm.to) hfl (slp s c2 po 1) (c2-po) (gg.drop po) ((hgr.Jj hm.to).dropB hgl.1) (by omega) hk (hgz.to hm.to)) fun v w hR=>?_
  obtain ⟨rfl,hE⟩:=hR
  refine ⟨trivial,?_⟩
  replace hm:=hm.ext hE
  refine au 14 ?_
  refine cd (fun hc1=>?_) fun hc1=>?_
  ·
   simp only [dT] at hc1
   refine au 10 ?_
   exact next (po+1,fr,fu,⟨p_a,n_a,cap_a,g_a,b_a⟩,cs,B) (by simp only; omega) ⟨(hm.Jp [0,1,2,3,4,5,6] 7 rfl),ha_a,hH,hOk,hgap,by rw [← hT,hfu,hmk,LI (by omega),LI hc1],by simp only; omega,by simp only; omega,by simp only; omega,by simp only; omega⟩ ⟨nx po,rfl,rfl,rfl,rfl,rfl,rfl,rfl,trivial⟩
  ·
   simp only [dF] at hc1
   obtain ⟨hq1,hq2,hq3,hq4⟩:=mtF_pos (f:=f) (k:=k) (bs:=gg.drop po) (by omega)
   have hq5:=cpl_le ((gg.drop po).drop k.toNat) (f.drop ((Lib.index f ((gg.drop po).take k.toNat)).toNat+k.toNat))
   rw [Lm] at hq5
   have hq6:=Lib.index_le f ((gg.drop po).take k.toNat)
   refine au 6 ?_
   refine Qf rfl rfl rfl rfl go27 (m_flush mf ml mn g_a b_a p_a n_a cap_a cs fr po B s c2 gg _ (Jr.right (A:=[_,_,_]) hm.Jz) ha_a hH hOk (hgr.Jj hm.to) (Mem.apartT (A:=[_,_,_]) hm hgr) ⟨hgl.1,by omega⟩ hgs (by omega) (by omega)) fun v w hR=>?_
   obtain ⟨rfl,p_a,n_a,cap_a,g_a,b_a,ds,B1,ha_a,hds,hH1,hOk1,hn1,hBB,hmc⟩:=hR
   refine ⟨trivial,?_⟩
   replace hm:=Mem.JQ (A:=[_,_,_]) hm hmc
   refine au 3 ?_
   refine dw [0,3,6,9,13,16,2,19,22] hm fun w hw hm0 hh hm=>?_
   refine au 4 ?_
   refine cB rfl rfl rfl (c_copy (po:Int) (Pl.mtF f k (gg.drop po)).1 (Pl.mtF f k (gg.drop po)).2 _) hm hh fun w hm hh=>?_
   refine Jb (l:=[_,_,_,_,_]) rfl rfl sl24.h z60.h rfl rfl rfl rfl rfl rfl rfl hm hh fun m11 w hg_m11 hm hh=>?_
   refine au 1 ?_
   refine Jy rfl rfl rfl rfl rfl rfl sl24.h sl24.h z60.h rfl rfl (Rd.JL (hm.get (k:=0) rfl)) rfl ha_a hm 4 rfl (by omega) (by omega) fun p_a cap_a g_a b_a w ha_a hm=>?_
   refine st hm 6 fun w hm=>?_
   refine au 12 ?_
   refine st hm 5 fun w hm=>?_
   refine au 2 ?_
   refine next (po+(Pl.mtF f k (gg.drop po)).2.toNat,po+(Pl.mtF f k (gg.drop po)).2.toNat,fu,⟨p_a,_,cap_a,g_a,b_a⟩,ds++[Go.Cx.mkC (⟨1,po,(Pl.mtF f k (gg.drop po)).1,(Pl.mtF f k (gg.drop po)).2,[]⟩:Pl.Cm) none 0],B1) (by simp only; omega) ⟨?_,ha_a.to (by rw [Lh,List.flatMap_singleton]; rfl),fun y hy=>?_,fun y hy=>?_,hBB _ hgap,by rw [Lx,hds,← hT,hfu,hmk,LI (by omega),LH hc1,Lp,Lp]; rfl,LP _,by simp only; omega,by simp only; omega,by simp only; omega⟩ ⟨LM (fun z=>some (Value.int .i64 z)) (show (po:Int)+(Pl.mtF f k (gg.drop po)).2=((po+(Pl.mtF f k (gg.drop po)).2.toNat:Nat):Int) by omega),rfl,rfl,rfl,rfl,rfl,rfl,rfl,trivial⟩
   · have e9:((po+(Pl.mtF f k (gg.drop po)).2.toNat:Nat):Int)=(po:Int)+(Pl.mtF f k (gg.drop po)).2:=by omega
     simp only; rw [e9]; exact (hm.Jp [1,2,3,4,5,6,7] 8 rfl)
   · exact (Ls.1 hy).elim (hH1 y) (fun h=>by rw [Lf.1 h]; exact ⟨0,.gap,hBB _ hgap,.nil _ _ _ _⟩)
   · exact (Ls.1 hy).elim (hOk1 y) (fun h=>by rw [Lf.1 h]; refine ⟨?_,?_,?_,?_,?_⟩ <;> simp only [Go.Cx.mkC,Pl.I64,LA] <;> omega)
 ·
  simp only [dF] at hc0
  have hpe:po=gg.length:=by omega
  have hfe:Pl.mkC f gg k fuel po fr=Pl.flC gg po fr:=by cases fuel with | zero=>rfl | succ n9=>exact LH (by omega)
  rw [hfe] at hT
  refine au 9 ?_
  refine Qf rfl rfl rfl rfl go27 (m_flush mf ml mn g_a b_a p_a n_a cap_a cs fr po B s c2 gg _ (Jr.right (A:=[_,_,_]) hm.Jz) ha_a hH hOk (hgr.Jj hm.to) (Mem.apartT (A:=[_,_,_]) hm hgr) ⟨hgl.1,by omega⟩ hgs (by omega) (by omega)) fun v w hR=>?_
  obtain ⟨rfl,p_a,n_a,cap_a,g_a,b_a,ds,B1,ha_a,hds,hH1,hOk1,hn1,hBB,hmc⟩:=hR
  refine ⟨trivial,?_⟩
  replace hm:=Mem.JQ (A:=[_,_,_]) hm hmc
  obtain rfl:=ha_a.QB Jf (by decide)
  refine au 7 ?_
  have hcon:=p_describe (some ra) cr f s c2 gg p_a cap_a ds _ (hf.Jj hm.to) hfl.1 (hgr.Jj hm.to) (by omega) (ha_a.rd hm 3 rfl) (fun c hc=>mk_okC hm (hH1 c hc) (fun e he=>Ly [_,_,_,_,_,_,_] he) (hOk1 c hc)) (by omega) (fun c hc=>by have:=(hOk1 c hc).2.2.2.2; omega)
  refine cT rfl rfl rfl hcon fun v w hR=>?_
  obtain ⟨xs_s,p_s,n_s,cap_s,g_s,b_s,B_s,rfl,ha_s,hx_s,hh_s,hmc⟩:=hR
  replace hm:=hm.VZ hmc
  obtain rfl:=ha_s.QB Jf (by decide)
  refine st hm 3 fun w hm=>?_
  replace hm:=Xu hm rfl
  refine au 3 ?_
  refine toR (fin Je rfl (.cell rfl (Ju (vs:=dlV f.length gg.length (Pl.hh (Pl.sha f) (Pl.sha gg)) _ _ _) ag26.h (hm.get (k:=3) rfl) rfl) .nil) .one ?_)
  exact ⟨xs_s,_,_,_,_,_,B_s,rfl,ha_s,by rw [hx_s,hds]; exact hT,hh_s,mkDrop (hm.Jp [0] 8 rfl)⟩
theorem run_mk:Pl.mkC ([97,98,99,100,101,102]:List UInt8) ([100,101,102,120,97,98,99]:List UInt8) 3 7 0 0=([⟨1,0,3,3,[]⟩,⟨2,3,0,0,[120]⟩,⟨1,4,0,3,[]⟩]:List Pl.Cm):=by decide +kernel
theorem run_apl:Pl.apl ([97,98,99,100,101,102]:List UInt8) ([⟨1,0,3,3,[]⟩,⟨2,3,0,0,[120]⟩,⟨1,4,0,3,[]⟩]:List Pl.Cm) 7=([100,101,102,120,97,98,99]:List UInt8):=by decide +kernel
theorem run_vd:Pl.VD 6 7 ([⟨1,0,3,3,[]⟩,⟨2,3,0,0,[120]⟩,⟨1,4,0,3,[]⟩]:List Pl.Cm) where
 lens:=by decide
 one:=by decide
 dis:=fun i j ci cj hji hi hj=>by
  have h1:i<3:=(Le.1 hi).1
  have:i=0∨i=1∨i=2:=by omega
  have:j=0∨j=1∨j=2:=by omega
  rcases ‹i=0∨_› with rfl | rfl | rfl <;> rcases ‹j=0∨_› with rfl | rfl | rfl <;> first | omega | (simp at hi hj; subst hi hj; unfold Pl.dj; decide)
 cov:=fun x h0 h1=>by
  have:x=0∨x=1∨x=2∨x=3∨x=4∨x=5∨x=6:=by omega
  rcases this with rfl | rfl | rfl | rfl | rfl | rfl | rfl <;> decide
theorem g_runs(w0:World)(hgz:Gz w0)(hRW:∀ cs:List CmdV,cs.map CmdV.cm=([⟨1,0,3,3,[]⟩,⟨2,3,0,0,[120]⟩,⟨1,4,0,3,[]⟩]:List Pl.Cm)→∀ ds,Pl.Arr ([97,98,99,100,101,102]:List UInt8) cs ds→Pl.RwTo 64 2 6 7 ([97,98,99,100,101,102]:List UInt8) [(4,1)] 2 ds):C Tryz.prog 7 [] w0 fun v w'=>v=.bool true∧Ext No w0 w':=by
 refine C_o Tryz.func7 fun κ _ Je Jc hm=>?_
 refine Qb rfl ?_
 refine JT (.pure 0 .done) (by kernel_rfl) ?_
 refine Ja rfl rfl (J4 rfl) ?_
 refine Qc ?_
 refine QV ?_
 refine Qb rfl ?_
 refine JT (.act 0 (.act 1 (.pure 2 .done))) (by kernel_rfl) ?_
 refine Jb (l:=[_,_,_,_,_,_]) rfl rfl sl22.h z5.h rfl rfl rfl rfl rfl rfl rfl hm trivial fun m1 w hg_m1 hm hh=>?_
 refine a_mkd rfl rfl rfl cb22 hm 0 rfl fun w hm=>?_
 refine Ja rfl rfl (J4 rfl) ?_
 refine Qc ?_
 refine QV ?_
 refine Qb rfl ?_
 refine JT (.pure 0 (.pure 1 (.act 2 (.act 3 (.act 4 (.pure 5 (.act 6 (.act 7 (.pure 8 (.pure 9 (.pure 10 (.pure 11 (.act 12 (.act 13 (.pure 14 (.act 15 (.act 16 .done))))))))))))))))) (by kernel_rfl) ?_
 refine Ja rfl rfl (Jx rfl) ?_
 refine Ja rfl rfl (Jx rfl) ?_
 refine Jb (l:=[_,_,_,_,_,_,_]) rfl rfl sl22.h z5.h rfl rfl rfl rfl rfl rfl rfl hm trivial fun m2 w hg_m2 hm hh=>?_
 refine a_mkd rfl rfl rfl cb22 hm 0 rfl fun w hm=>?_
 refine cT rfl rfl rfl (m_make ⟨m1,0,none⟩ 6 ([97,98,99,100,101,102]:List UInt8) (some ⟨m2,0,none⟩) 7 ([100,101,102,120,97,98,99]:List UInt8) 3 _ (Rd.mkd (hm.get (k:=1) rfl)) (by decide) (Rd.mkd (hm.get (k:=0) rfl)) (by decide) (fun _ ad e=>by cases e; rfl) (by decide) (hgz.to hm.to)) fun v w hR=>?_
 obtain ⟨ys,p_y,n_y,cap_y,g_y,b_y,B_y,rfl,ha_y,hys,hHy,hmc⟩:=hR
 obtain rfl:=ha_y.QB Jf (by decide)
 replace hm:=hm.VZ hmc
 replace hys:=hys.trans run_mk
 have hv:Pl.VD 6 7 (ys.map CmdV.cm):=by rw [hys]; exact run_vd
 have hyl:ys.length=3:=by have:=LM List.length hys; rw [Lj] at this; exact this
 refine au 1 ?_
 refine Jb (l:=[_,_]) rfl rfl sl64.h z57.h rfl rfl rfl rfl rfl rfl rfl hm trivial fun m14 w hg_m14 hm hh=>?_
 have hcon:=c_rewrite (some ⟨m1,0,none⟩) 6 ([97,98,99,100,101,102]:List UInt8) p_y cap_y ys 6 7 (Pl.hh (Pl.sha ([97,98,99,100,101,102]:List UInt8)) (Pl.sha ([100,101,102,120,97,98,99]:List UInt8))) 64 2 (some ⟨m14,0,none⟩) 1 [(4,1)] 2 _ (by rw [hys,show (7:Int).toNat=7 from rfl,run_apl]) (Rd.mkd (hm.get (k:=3) rfl)) (by decide) (fun _ ad e=>by cases e; rfl) (ha_y.rd hm 1 rfl) (by omega) (fun c hc=>Ya hm (hHy c hc) (fun e he=>Ly [_,_,_,_] he) (hv.one c.cm (Ln.2 ⟨c,hc,rfl⟩))) (V5 hv (by decide)) hv rfl (by decide) (by decide) (by decide) (Rd.JL (hm.get (k:=0) rfl)) (by decide) (by decide) (hRW ys hys)
 refine cT rfl rfl rfl hcon fun v w hR=>?_
 obtain ⟨p_b,cap_b,g_b,b_b,pa,ca,pk,rfl,-,ha_b,hmc⟩:=hR
 replace hm:=hm.Jt hmc
 rw [hys,show (7:Int).toNat=7 from rfl,run_apl] at ha_b
 refine au 4 ?_
 refine aT hm fun m1 w hm=>?_
 refine aT hm fun m2 w hm=>?_
 refine au 1 ?_
 refine st hm 1 fun w hm=>?_
 refine st hm 0 fun w hm=>?_
 refine au 6 ?_
 refine Ja rfl rfl (JA (c:=true) (y_eq2 rfl rfl iii46) (by decide)) ?_
 refine au 2 ?_
 refine Ja rfl rfl (y_cvs rfl bt22_9 ((ha_b.rd hm 2 rfl).nt) ha_b.J0) ?_
 refine Ja rfl rfl (JA (c:=true) (y_seql rfl rfl) (by show ((bstr ([100,101,102,120,97,98,99]:List UInt8)).toList==(bstr ([100,101,102,120,97,98,99]:List UInt8)).toList)=true; rw [YX]; decide)) ?_
 refine au 5 ?_
 refine Ja rfl rfl (JA (c:=true) (V3 rfl rfl) (by decide)) ?_
 refine au 6 ?_
 exact ⟨rfl,hm.to⟩
theorem r8_apply(oo nn:Int)(H:Nat→UInt8)(q:Option Addr)(cq:Nat)(cs:List CmdV)(r:Option Addr)(cr:Nat)(f:List UInt8)(w0:World)(hq:Rd w0 q (cs.flatMap JM))(hdl:cs.length≤4611686018427387903)(hok:∀ c∈cs,okC w0 c)(hf:Rd w0 r (f.flatMap Jk))(ho:oo=f.length)(hv:Pl.VD oo nn (cs.map CmdV.cm))(hn:nn≤3000):C Tryz.prog 10 [.slice r f.length cr,.agg ⟨dlV oo nn H q cs.length cq⟩] w0 fun v w'=>∃ (p:Option Addr) (n9 cap g:Nat) (b:Blk),v=.slice p n9 cap∧Acc 5 1 p n9 cap ((Pl.apl f (cs.map CmdV.cm) nn.toNat).flatMap Jk) g b∧Mem w0 w' No [(g,b)]:=by
 have hlens:=hv.lens
 have hr:∀ c∈cs,Pl.I64 (c.cm.to+Pl.clen c.cm):=fun c hc=>by
  have:=Pl.Jl (Pl.Jw (hv.one c.cm (Ln.2 ⟨c,hc,rfl⟩))).1
  simp only [Pl.I64]; omega
 refine C_o Tryz.func10 fun κ _ Je Jc hm=>?_
 refine au 2 ?_
 refine bT hm fun m1 w hm=>?_
 refine au 6 ?_
 replace hm:=hm.JP
 have ha_o:=Acc.nil 5 1 none 0
 refine au 9 ?_
 refine Jg (ι:=Nat×Ow) rfl (ks:=[0,3,4]) (.cons rfl (.cons rfl (.cons rfl .nil))) (fun x=>[(6,.int .i64 x.1),(5,.slice x.2.p x.2.n x.2.cap)]) (fun x w=>Mem w0 w No [(x.2.g,x.2.b),(m1,.row 26 (dlV oo nn H q cs.length cq))]∧Acc 5 1 x.2.p x.2.n x.2.cap ((Pl.apl f (cs.map CmdV.cm) x.1).flatMap Jk) x.2.g x.2.b∧(x.1:Int)≤nn∧x.2.n=x.1) (fun x=>nn.toNat-x.1) (0,⟨none,0,0,0,.gap⟩) (⟨(hm.pick [0,1] rfl),ha_o,hlens.2.1,rfl⟩) ⟨rfl,rfl,trivial⟩ (fun x w hM=>?_)
 obtain ⟨hm,ha_o,hk,hn9⟩:=hM
 refine au 9 ?_
 refine cd (fun hc0=>?_) fun hc0=>?_
 ·
  simp only [dT] at hc0
  obtain ⟨j,c9,hfj,hcj,hbj⟩:=Pl.fnd_some (hv.cov x.1 (by omega) hc0)
  obtain ⟨c,hi,rfl⟩:=cmsOf hcj
  obtain ⟨qb,qo,rfl⟩:=hq.atI Jf (by decide) hi
  have hjl:=(Le.1 hi).1
  have hone:=hv.one c.cm (Ld hcj)
  obtain ⟨b,hb⟩:=Pl.cbyte_some ho hone hbj
  have hap:=Pl.apB_of hfj hcj hb
  obtain ⟨hcc0,hs1,hs2⟩:=Pl.Jw hone
  have hck:=Pl.Jl hcc0
  have hbb:=Pl.Qm.1 hbj
  have k1:c.cm.k=c.k:=rfl
  have k2:c.cm.to=c.to:=rfl
  have k3:c.cm.fr=c.fr:=rfl
  have k4:c.cm.ln=c.ln:=rfl
  have k5:c.cm.bs=c.d.bs:=rfl
  rw [k1,k2,k3,k4,k5] at hck
  rw [k1,k3,k4] at hs1
  rw [k2] at hbb
  have hrd0:=(hok c (Ld hi)).2.2.2.2.rd
  refine au 5 ?_
  refine JS (.pure 0 (.pure 1 (.pure 2 (.pure 3 (.act2 4 (.pure 5 (.pure 6 (.act 7 (.cut (.act 8 .done))))) 7 (.act 4 (.pure 5 (.pure 6 (.cut (.act 8 .done)))))))))) No mix (by kernel_rfl) hm fun w hw hm0 hh=>?_
  have hm:=hm0
  refine au 2 ?_
  refine Ja rfl rfl (Jm (s:=67) (vs:=dlV oo nn H _ cs.length cq) rfl ag26.h (hm0.nd 1 rfl id) rfl) ?_
  refine au 1 ?_
  refine QN ?_ ?_
  ·
   refine cB rfl rfl rfl (C.as (r5_find oo nn H _ cq cs x.1 _ (hq.Jj hm.to) hdl hr) (LM (Value.int .i64) hfj)) hm hh fun w hm hh=>?_
   refine au 1 ?_
   refine Ja rfl rfl (JU rfl ag60.h (hq.Jj hm0.to).nd Jf hi) ?_
   refine al hm hh fun m2 w hg_m2 hm hh=>?_
   refine au 1 ?_
   refine st hm 0 fun w hm=>?_
   refine au 9 ?_
   refine cd (fun hc1=>?_) fun hc1=>?_
   ·
    simp only [dT] at hc1
    have hbx:f[(c.fr+x.1-c.to).toNat]?=some b:=by
     have:=hb
     unfold Pl.cbyte at this
     rw [LI (by rw [k1]; exact hc1)] at this
     exact this
    obtain ⟨rb,ro,rfl⟩:=hf.atI JG (by decide) hbx
    have hlt:=(Le.1 hbx).1
    refine au 11 ?_
    refine Ja rfl rfl (J3 rfl sc5.h (hf.Jj hm.to).nt JG hbx rfl) ?_
    refine Jb (l:=[_]) rfl rfl sl22.h z5.h rfl rfl rfl rfl rfl rfl rfl hm trivial fun m3 w hg_m3 hm hh=>?_
    refine Jy rfl rfl rfl rfl rfl rfl sl22.h sl22.h z5.h rfl rfl (Rd.JL (hm.get (k:=0) rfl)) rfl ha_o hm 2 rfl (by omega) (by omega) fun p_o cap_o g_o b_o w ha_o hm=>?_
    refine au 9 ?_
    refine next (x.1+1,⟨p_o,_,cap_o,g_o,b_o⟩) (by simp only; omega) ⟨(hm.pick [2,3] rfl),ha_o.to ?_,by simp only; omega,by simp only; omega⟩ ⟨nx x.1,rfl,rfl,rfl,rfl,trivial⟩
    rw [Pl.apl_next,Lh,hap]; rfl
   ·
    simp only [dF] at hc1
    have hbx:c.d.bs[((x.1:Int)-c.to).toNat]?=some b:=by
     have:=hb
     unfold Pl.cbyte at this
     rw [LH (by rw [k1]; exact hc1)] at this
     exact this
    obtain ⟨rb,ro,hdp⟩:=hrd0.atI JG (by decide) hbx
    have hcr:=hdp▸hrd0
    have hlt:=(Le.1 hbx).1
    refine au 8 ?_
    refine Ja rfl rfl (Qy rfl rfl sl22.h hdp (by omega) (by omega)) ?_
    refine Ja rfl rfl (J3 rfl sc5.h (hcr.Jj hm.to).nt JG hbx rfl) ?_
    refine Jb (l:=[_]) rfl rfl sl22.h z5.h rfl rfl rfl rfl rfl rfl rfl hm trivial fun m3 w hg_m3 hm hh=>?_
    refine Jy rfl rfl rfl rfl rfl rfl sl22.h sl22.h z5.h rfl rfl (Rd.JL (hm.get (k:=0) rfl)) rfl ha_o hm 2 rfl (by omega) (by omega) fun p_o cap_o g_o b_o w ha_o hm=>?_
    refine au 9 ?_
    refine next (x.1+1,⟨p_o,_,cap_o,g_o,b_o⟩) (by simp only; omega) ⟨(hm.pick [2,3] rfl),ha_o.to ?_,by simp only; omega,by simp only; omega⟩ ⟨nx x.1,rfl,rfl,rfl,rfl,trivial⟩
    rw [Pl.apl_next,Lh,hap]; rfl
  ·
   refine al hm hh fun m2 w hg_m2 hm hh=>?_
   refine cB rfl rfl rfl (C.as (r5_find oo nn H _ cq cs x.1 _ (hq.Jj hm.to) hdl hr) (LM (Value.int .i64) hfj)) hm hh fun w hm hh=>?_
   refine au 1 ?_
   refine Ja rfl rfl (JU rfl ag60.h (hq.Jj hm0.to).nd Jf hi) ?_
   refine au 1 ?_
   refine st hm 0 fun w hm=>?_
   refine au 9 ?_
   refine cd (fun hc1=>?_) fun hc1=>?_
   ·
    simp only [dT] at hc1
    have hbx:f[(c.fr+x.1-c.to).toNat]?=some b:=by
     have:=hb
     unfold Pl.cbyte at this
     rw [LI (by rw [k1]; exact hc1)] at this
     exact this
    obtain ⟨rb,ro,rfl⟩:=hf.atI JG (by decide) hbx
    have hlt:=(Le.1 hbx).1
    refine au 11 ?_
    refine Ja rfl rfl (J3 rfl sc5.h (hf.Jj hm.to).nt JG hbx rfl) ?_
    refine Jb (l:=[_]) rfl rfl sl22.h z5.h rfl rfl rfl rfl rfl rfl rfl hm trivial fun m3 w hg_m3 hm hh=>?_
    refine Jy rfl rfl rfl rfl rfl rfl sl22.h sl22.h z5.h rfl rfl (Rd.JL (hm.get (k:=0) rfl)) rfl ha_o hm 2 rfl (by omega) (by omega) fun p_o cap_o g_o b_o w ha_o hm=>?_
    refine au 9 ?_
    refine next (x.1+1,⟨p_o,_,cap_o,g_o,b_o⟩) (by simp only; omega) ⟨(hm.pick [2,3] rfl),ha_o.to ?_,by simp only; omega,by simp only; omega⟩ ⟨nx x.1,rfl,rfl,rfl,rfl,trivial⟩
    rw [Pl.apl_next,Lh,hap]; rfl
   ·
    simp only [dF] at hc1
    have hbx:c.d.bs[((x.1:Int)-c.to).toNat]?=some b:=by
     have:=hb
     unfold Pl.cbyte at this
     rw [LH (by rw [k1]; exact hc1)] at this
     exact this
    obtain ⟨rb,ro,hdp⟩:=hrd0.atI JG (by decide) hbx
    have hcr:=hdp▸hrd0
    have hlt:=(Le.1 hbx).1
    refine au 8 ?_
    refine Ja rfl rfl (Qy rfl rfl sl22.h hdp (by omega) (by omega)) ?_
    refine Ja rfl rfl (J3 rfl sc5.h (hcr.Jj hm.to).nt JG hbx rfl) ?_
    refine Jb (l:=[_]) rfl rfl sl22.h z5.h rfl rfl rfl rfl rfl rfl rfl hm trivial fun m3 w hg_m3 hm hh=>?_
    refine Jy rfl rfl rfl rfl rfl rfl sl22.h sl22.h z5.h rfl rfl (Rd.JL (hm.get (k:=0) rfl)) rfl ha_o hm 2 rfl (by omega) (by omega) fun p_o cap_o g_o b_o w ha_o hm=>?_
    refine au 9 ?_
    refine next (x.1+1,⟨p_o,_,cap_o,g_o,b_o⟩) (by simp only; omega) ⟨(hm.pick [2,3] rfl),ha_o.to ?_,by simp only; omega,by simp only; omega⟩ ⟨nx x.1,rfl,rfl,rfl,rfl,trivial⟩
    rw [Pl.apl_next,Lh,hap]; rfl
 ·
  simp only [dF] at hc0
  have hke:x.1=nn.toNat:=by omega
  rw [hke] at ha_o
  refine au 13 ?_
  exact ⟨_,_,_,_,_,rfl,ha_o,(hm.pick [0] rfl)⟩
structure DI(sz cnt:Nat)(bud:Int)(D:Pl.Dv):Prop where
 ok:Pl.okDv D
 dn:D.dn=false
 wr:D.wr<0
 ca:D.ca=[]
 hsz:D.sz=sz
 hcnt:D.cnt=cnt
 sW:0≤D.sW∧D.sW+bud≤4611686018427387903
theorem DI.mono{sz cnt:Nat}{b c:Int}{D:Pl.Dv}(h:DI sz cnt b D)(hc:c≤b):DI sz cnt c D:={ h with sW:=⟨h.sW.1,by have:=h.sW.2; omega⟩ }
theorem DI.cont{sz cnt:Nat}{b:Int}{D:Pl.Dv}(h:DI sz cnt b D):Pl.contents D=D.dk:=by unfold Pl.contents; rw [h.ca]; rfl
theorem wr_up{sz cnt:Nat}{bud:Int}{D:Pl.Dv}{a:Nat}{bs:List UInt8}(h:DI sz cnt bud D)(hon:Pl.onD D (a:Int) (bs.length:Int)=true)(hb:(cnt:Int)≤bud) :
 (Pl.wrS a bs (Pl.sN D.sz a bs.length) (Pl.sF D.sz a bs.length) D).1=0∧Pl.QS (Pl.wrS a bs (Pl.sN D.sz a bs.length) (Pl.sF D.sz a bs.length) D).2=0∧DI sz cnt (bud-cnt) (Pl.fDv (Pl.wrS a bs (Pl.sN D.sz a bs.length) (Pl.sF D.sz a bs.length) D).2) ∧
 ∀ j:Nat,(Pl.fDv (Pl.wrS a bs (Pl.sN D.sz a bs.length) (Pl.sF D.sz a bs.length) D).2).dk[j]?=if a≤j∧j<a+bs.length then bs[j-a]? else D.dk[j]?:=by
 have hcc:D.cnt≤D.cnt*D.sz:=Lu _ h.ok.sz
 have hmx:=h.ok.max
 have hc:=h.hcnt
 have hca:=h.ca
 have hsW:=h.sW
 have hc0:D.ca.length=0:=by rw [hca]; rfl
 have u:=Pl.wrAll_up h.ok h.dn h.wr hon (by omega) hsW.1 (by omega)
 have e:Pl.Ys D (a:Int) bs=Pl.wrS a bs (Pl.sN D.sz a bs.length) (Pl.sF D.sz a bs.length) D:=by
  unfold Pl.Ys
  rw [LH (by rw [hon]; decide),LD]
 rw [e] at u
 have ho:=Pl.JJ.1 hon
 have hcn:=Pl.XZ (sz:=D.sz) (a:=a) (b:=bs.length) (cnt:=D.cnt) h.ok.sz (by omega) h.ok.cnt
 have v:=Pl.wrS_up a bs (Pl.sN D.sz a bs.length) (Pl.sF D.sz a bs.length) D h.ok h.dn h.wr hcn (by omega) hsW.1 (by omega)
 generalize Pl.wrS a bs (Pl.sN D.sz a bs.length) (Pl.sF D.sz a bs.length) D=W at u v ⊢
 obtain ⟨u1,u2,u3,u4,u5,u6,u7,u8,u9⟩:=u
 have hfd:Pl.fDv W.2={ Pl.persist W.2 (fun _=>true) with sF:=Pl.inc W.2.sF }:=by unfold Pl.fDv; rw [u2]; rfl
 have hdk:(Pl.fDv W.2).dk=Pl.contents W.2:=by rw [hfd]; exact Pl.pers_all _ _ _ _
 refine ⟨u1,by unfold Pl.QS; rw [u2]; rfl,⟨Pl.ok_flush u7,by rw [hfd]; exact u2,by rw [hfd]; exact v.2.2.1,by rw [hfd]; rfl,by rw [hfd]; exact u5.trans h.hsz,by rw [hfd]; exact u6.trans hc,?_⟩,fun j=>?_⟩
 · rw [hfd]
   show 0≤W.2.sW∧W.2.sW+(bud-cnt)≤4611686018427387903
   rw [u4]
   omega
 · rw [hdk,u9 j,h.cont]
theorem wrF_up{sz cnt:Nat}{bud:Int}{D:Pl.Dv}{a:Nat}{bs:List UInt8}(h:DI sz cnt bud D)(hon:Pl.onD D (a:Int) (bs.length:Int)=true)(hb:(cnt:Int)≤bud) :
 (Pl.wrF D a bs).1=0∧DI sz cnt (bud-cnt) (Pl.wrF D a bs).2∧∀ j:Nat,(Pl.wrF D a bs).2.dk[j]?=if a≤j∧j<a+bs.length then bs[j-a]? else D.dk[j]?:=by
 obtain ⟨h1,h2,h3,h4⟩:=wr_up h hon hb
 unfold Pl.wrF
 rw [LH (fun h=>h h1)]
 exact ⟨h2,h3,h4⟩
theorem japp_up{sz cnt f N:Nat}{bud b:Int}{D:Pl.Dv}{S:Pl.Jn}{r:Pl.Rc}(h:DI sz cnt bud D)(h2:f+2*N≤cnt)(hj:b+44≤(N:Int)*(sz:Int))(hr:Pl.rright r=true)(hl:(r.bs.length:Int)≤b)(hb:(cnt:Int)≤bud) :
 (Pl.japp D f N b S r).1=0∧(Pl.japp D f N b S r).2.2=⟨IntKind.u64.wrap (S.nx+1),true,r⟩∧DI sz cnt (bud-cnt) (Pl.japp D f N b S r).2.1∧∀ j:Nat,j<f*sz→(Pl.japp D f N b S r).2.1.dk[j]?=D.dk[j]?:=by
 have hEl:=Pl.VC r
 have hcast:((N*D.sz:Nat):Int)=(N:Int)*(D.sz:Int):=Int.natCast_mul N D.sz
 have hsz:=h.hsz
 have hcn:=h.hcnt
 rw [hsz] at hcast
 have hon:Pl.onD D ((Pl.jat D f N (Pl.Jo S):Nat):Int) ((Pl.renc r).length:Int)=true:=Pl.jon h.ok (by omega) (Pl.Xv S) (by rw [hsz]; omega)
 have e:Pl.japp D f N b S r=Pl.jgo D f N S r:=LI ⟨hr,hl⟩
 obtain ⟨w1,w2,w3,w4⟩:=wr_up h hon hb
 rw [e]
 unfold Pl.jgo Pl.jwr
 rw [LH (fun h=>h w1),LH (fun h=>h w2)]
 refine ⟨rfl,rfl,w3,fun j hjj=>?_⟩
 show (Pl.fDv _).dk[j]?=_
 rw [w4 j,LH]
 have:f*sz≤Pl.jat D f N (Pl.Jo S):=by
  unfold Pl.jat
  rw [hsz]
  exact Lr _ (Nat.le_add_right _ _)
 omega
theorem tk_put{l l' bs:List UInt8}{a M:Nat}(h:∀ j:Nat,l'[j]?=if a≤j∧j<a+bs.length then bs[j-a]? else l[j]?)(ha:a+bs.length≤M)(hM:M≤l.length):l'.take M=Pl.put (l.take M) a bs:=by
 refine Kb fun j=>?_
 rw [Pl.XI (by rw [Lg]; omega),LF,LF,h j]
 by_cases h1:a≤j∧j<a+bs.length
 · rw [LI h1,LI h1,LI (by omega)]
 · rw [LH h1,LH h1]
theorem tk_same{l l':List UInt8}{M:Nat}(h:∀ j:Nat,j<M→l'[j]?=l[j]?):l'.take M=l.take M:=by
 refine Kb fun j=>?_
 rw [LF,LF]
 split
 · rename_i h1; exact h j h1
 · rfl
theorem rd_take{sz cnt:Nat}{bud:Int}{D:Pl.Dv}(h:DI sz cnt bud D){a n:Int}{M:Nat}(ha:0≤a)(hn:0≤n)(hM:a+n≤M)(hM2:M≤cnt*sz):Pl.rdB D a n=((D.dk.take M).drop a.toNat).take n.toNat:=by
 have hmx:=h.ok.max
 rw [h.hsz,h.hcnt] at hmx
 have hon:Pl.onD D a n=true:=Pl.JJ.2 (by rw [h.hsz,h.hcnt]; omega)
 unfold Pl.rdB
 rw [LI (Pl.XB h.dn hon),h.cont,List.drop_take,List.take_take]
 congr 1
 omega
theorem Y2{s:Int}:∀ (cs:List Pl.Cm) (b:Nat),(Pl.steps s b cs).map (·.2)=Pl.Qd s cs
 | [],b=>rfl
 | c::r,b=>by
  unfold Pl.steps Pl.Qd
  rw [Lx,List.map_map,Y2 r (b+1),Lk]
  congr 1
  exact List.map_id' _
structure CtOk(sz f N:Nat)(b k oo nn:Int)(fl:List UInt8)(cs:List Pl.Cm):Prop where
 hN:NwOk b oo nn fl cs
 s1:1≤sz
 hM:max oo nn≤((f*sz:Nat):Int)
 hj:b+44≤(N:Int)*(sz:Int)
 sl:Pl.slot (sz:Int) b=(N:Int)
 cn:f+2*N≤1000000
def Fi(nn b:Int)(fl:List UInt8)(cs:List Pl.Cm)(i:Nat):List UInt8:=((Pl.Qd b cs).take i).foldl Pl.ex1 (Pl.extd fl nn)
structure Good(sz f N:Nat)(b oo nn:Int)(fl:List UInt8)(cs:List Pl.Cm)(bud:Int)(i:Nat)(A:Pl.Ap):Prop where
 di:DI sz (f+2*N) bud A.D
 fi:A.D.dk.take (max oo nn).toNat=Fi nn b fl cs i
 nx:A.nx=(i:Int)
 sn:0≤A.S.nx∧A.S.nx≤18446744073709551615
 la:A.S.la.bs.length≤1000000
section
variable {sz f N:Nat}{b k oo nn:Int}{fl:List UInt8}{cs:List Pl.Cm}
theorem CtOk.len(h:CtOk sz f N b k oo nn fl cs):Pl.JF b cs=((Pl.Qd b cs).length:Int):=by
 unfold Pl.JF
 rw [← Pl.steps_len 0 h.hN.fw,← Y2 cs 0,Lj]
theorem CtOk.at(h:CtOk sz f N b k oo nn fl cs){i:Nat}(hi:i<(Pl.Qd b cs).length):(Pl.Qd b cs)[i]?=some (Pl.JB b cs i)∧0≤(Pl.JB b cs i).to∧((Pl.JB b cs i).k=1→0≤(Pl.JB b cs i).fr∧0≤(Pl.JB b cs i).ln∧(Pl.JB b cs i).fr+(Pl.JB b cs i).ln≤oo∧(Pl.JB b cs i).to+(Pl.JB b cs i).ln≤nn∧(Pl.JB b cs i).ln≤b)∧((Pl.JB b cs i).k≠1→(Pl.JB b cs i).to+(Pl.JB b cs i).bs.length≤nn∧((Pl.JB b cs i).bs.length:Int)≤b):=by
 have h1:i<(Pl.steps b 0 cs).length:=by rw [← Y2 cs 0,Lj] at hi; exact hi
 obtain ⟨x,hx⟩:∃ x,(Pl.steps b 0 cs)[i]?=some x:=⟨_,La h1⟩
 have h2:Pl.JB b cs i=x.2:=by unfold Pl.JB; rw [hx]; rfl
 have h3:=h.hN.ck x (Ld hx)
 rw [h2]
 refine ⟨?_,h3⟩
 rw [← Y2 cs 0,Lt,hx]; rfl
theorem Fi_next(h:CtOk sz f N b k oo nn fl cs){i:Nat}(hi:i<(Pl.Qd b cs).length):Fi nn b fl cs (i+1)=Pl.put (Fi nn b fl cs i) (Pl.JB b cs i).to.toNat (Pl.wrt (Fi nn b fl cs i) (Pl.JB b cs i)):=by
 obtain ⟨h1,-⟩:=h.at hi
 unfold Fi
 rw [LC,h1,Option.toList,List.foldl_append,List.foldl_cons,List.foldl_nil]
 rfl
theorem Fi_end(h:CtOk sz f N b k oo nn fl cs):(Fi nn b fl cs (Pl.Qd b cs).length).take nn.toNat=Pl.apl fl cs nn.toNat:=by
 have hon:=h.hN.on
 obtain ⟨R,h1,h2,h3⟩:=Pl.exec_chunks h.hN.ol h.hN.vd h.hN.sf h.hN.bn.1 (by omega)
 unfold Pl.exs at h1
 split at h1
 · cases h1
   rw [← h3]
   unfold Fi
   rw [Lv]
 · cases h1
theorem wrt_len(h:CtOk sz f N b k oo nn fl cs){i:Nat}(hi:i<(Pl.Qd b cs).length):((Pl.wrt (Fi nn b fl cs i) (Pl.JB b cs i)).length:Int)≤b∧(Pl.JB b cs i).to+((Pl.wrt (Fi nn b fl cs i) (Pl.JB b cs i)).length:Int)≤nn:=by
 obtain ⟨h1,h2,h3,h4⟩:=h.at hi
 unfold Pl.wrt
 split
 · rename_i hk
   have:=h3 hk
   rw [Lg]
   omega
 · rename_i hk
   have:=h4 hk
   omega
variable {bud:Int}{i:Nat}{A:Pl.Ap}
theorem Good.on(hc:CtOk sz f N b k oo nn fl cs)(h:DI sz (f+2*N) bud A.D){a n:Int}(ha:0≤a)(hn:0≤n)(hM:a+n≤max oo nn):Pl.onD A.D a n=true:=by
 have h1:=hc.hM
 have h2:f*sz≤(f+2*N)*sz:=Lr _ (Nat.le_add_right _ _)
 have h3:=h.ok.max
 have h4:=hc.hN.on
 rw [h.hsz,h.hcnt] at h3
 exact Pl.JJ.2 (by rw [h.hsz,h.hcnt]; omega)
theorem Good.leM(hc:CtOk sz f N b k oo nn fl cs)(h:DI sz (f+2*N) bud A.D):(max oo nn).toNat≤f*sz∧(max oo nn).toNat≤A.D.dk.length∧(max oo nn).toNat≤(f+2*N)*sz:=by
 have h1:=hc.hM
 have h2:f*sz≤(f+2*N)*sz:=Lr _ (Nat.le_add_right _ _)
 rw [h.ok.len,h.hsz,h.hcnt]
 omega
theorem Good.bts(hc:CtOk sz f N b k oo nn fl cs)(h:Good sz f N b oo nn fl cs bud i A)(hi:i<(Pl.Qd b cs).length):A.bts (Pl.JB b cs i)=Pl.wrt (Fi nn b fl cs i) (Pl.JB b cs i):=by
 obtain ⟨h1,h2,h3,h4⟩:=hc.at hi
 have hm:=Good.leM hc h.di
 have hon:=hc.hN.on
 unfold Pl.Ap.bts Pl.wrt
 split
 · rename_i hk
   have h5:=h3 hk
   rw [rd_take h.di h5.1 h5.2.1 (M:=(max oo nn).toNat) (by omega) hm.2.2,h.fi]
 · rfl
theorem u64w(x:Int):0≤IntKind.u64.wrap x∧IntKind.u64.wrap x≤18446744073709551615:=by
 have h:IntKind.u64.wrap x=x%18446744073709551616:=by simp [IntKind.wrap,IntKind.signed,IntKind.bits]
 rw [h]
 omega
theorem good_exec(hc:CtOk sz f N b k oo nn fl cs)(h:Good sz f N b oo nn fl cs bud i A)(hi:i<(Pl.Qd b cs).length)(hb:2*((f+2*N:Nat):Int)≤bud) :
 (A.exec f N b k cs).1=0∧Good sz f N b oo nn fl cs (bud-2*((f+2*N:Nat):Int)) (i+1) (A.exec f N b k cs).2∧(A.exec f N b k cs).2.st=1∧(A.exec f N b k cs).2.sg=false:=by
 obtain ⟨h1,h2,h3,h4⟩:=hc.at hi
 have hw:=wrt_len hc hi
 have hon:=hc.hN.on
 have hbn:=hc.hN.bn
 have hm:=Good.leM hc h.di
 have hlen:=hc.len
 have hmx:=hc.hN.mx
 have hL:Pl.JF b cs=Pl.first b cs cs.length:=rfl
 have hx:A.nx.toNat=i:=by rw [h.nx]; rfl
 unfold Pl.Ap.exec
 rw [hx,Good.bts hc h hi]
 generalize hW:Pl.wrt (Fi nn b fl cs i) (Pl.JB b cs i)=W at hw
 generalize hd:Pl.JB b cs i=d at h2 h3 h4 hw hW
 obtain ⟨j1,j2,j3,j4⟩:=japp_up (S:=A.S) (r:=Pl.jmk A.S k A.nx d.to W) h.di (LP _) hc.hj (Pl.Q5.2 ⟨by simp only [Pl.jmk]; have:=h.nx; omega,by simp only [Pl.jmk]; have:=h.nx; omega,h2,by simp only [Pl.jmk]; omega,by simp only [Pl.jmk]; omega⟩) hw.1 (by omega)
 have htk:=tk_same (M:=(max oo nn).toNat) (fun j hj=>j4 j (by omega))
 generalize Pl.japp A.D f N b A.S (Pl.jmk A.S k A.nx d.to W)=J at j1 j2 j3 j4 htk ⊢
 have hm2:=Good.leM (A:=⟨J.2.1,J.2.2,A.st,A.nx,A.sg⟩) hc j3
 simp only at hm2
 obtain ⟨w1,w2,w3⟩:=wrF_up (a:=d.to.toNat) (bs:=W) j3 (by
  have:=Good.on (A:=⟨J.2.1,J.2.2,A.st,A.nx,A.sg⟩) hc j3 (a:=d.to) (n:=(W.length:Int)) h2 (by omega) (by omega)
  rw [show ((d.to.toNat:Nat):Int)=d.to by omega]
  exact this) (by omega)
 have htk2:=tk_put (M:=(max oo nn).toNat) w3 (by omega) hm2.2.1
 unfold Pl.Ap.put
 rw [LH (fun h=>h j1),LH (fun h=>h w1)]
 refine ⟨rfl,⟨w2.mono (by omega),?_,by simp only; rw [h.nx]; omega,by simp only; rw [j2]; exact u64w _,by simp only; rw [j2]; simp only [Pl.jmk]; omega⟩,rfl,rfl⟩
 simp only
 rw [htk2,htk,h.fi,Fi_next hc hi,hd,hW]
theorem good_redo(hc:CtOk sz f N b k oo nn fl cs)(h:Good sz f N b oo nn fl cs bud i A)(hi:i<(Pl.Qd b cs).length)(hb:2*((f+2*N:Nat):Int)≤bud)(ho:(Pl.jla A.S).of=(Pl.JB b cs i).to)(hd:(Pl.jla A.S).bs=Pl.wrt (Fi nn b fl cs i) (Pl.JB b cs i)) :
 A.redo.1=0∧Good sz f N b oo nn fl cs (bud-2*((f+2*N:Nat):Int)) (i+1) A.redo.2∧A.redo.2.st=1∧A.redo.2.sg=false:=by
 obtain ⟨h1,h2,h3,h4⟩:=hc.at hi
 have hw:=wrt_len hc hi
 have hon:=hc.hN.on
 have hm:=Good.leM hc h.di
 unfold Pl.Ap.redo
 rw [ho,hd]
 have hFn:=Fi_next hc hi
 generalize Pl.wrt (Fi nn b fl cs i) (Pl.JB b cs i)=W at hw hFn
 generalize Pl.JB b cs i=d at h2 h3 h4 hw hFn
 obtain ⟨w1,w2,w3⟩:=wrF_up (a:=d.to.toNat) (bs:=W) h.di (by
  have:=Good.on hc h.di (a:=d.to) (n:=(W.length:Int)) h2 (by omega) (by omega)
  rw [show ((d.to.toNat:Nat):Int)=d.to by omega]
  exact this) (by omega)
 have htk2:=tk_put (M:=(max oo nn).toNat) w3 (by omega) hm.2.1
 rw [LH (fun h=>h w1)]
 refine ⟨rfl,⟨w2.mono (by omega),?_,by simp only; rw [h.nx]; omega,h.sn,h.la⟩,rfl,rfl⟩
 simp only
 rw [htk2,h.fi,hFn]
theorem good_fin(hc:CtOk sz f N b k oo nn fl cs)(h:Good sz f N b oo nn fl cs bud i A)(hb:((f+2*N:Nat):Int)≤bud) :
 (A.fin f N b k cs).1=0∧DI sz (f+2*N) (bud-((f+2*N:Nat):Int)) (A.fin f N b k cs).2.D∧(A.fin f N b k cs).2.st=2∧(A.fin f N b k cs).2.D.dk.take (max oo nn).toNat=Fi nn b fl cs i:=by
 have hon:=hc.hN.on
 have hbn:=hc.hN.bn
 have hm:=Good.leM hc h.di
 have hlen:=hc.len
 have hmx:=hc.hN.mx
 have hL:Pl.JF b cs=Pl.first b cs cs.length:=rfl
 obtain ⟨j1,j2,j3,j4⟩:=japp_up (S:=A.S) (r:=Pl.jmk A.S k (Pl.JF b cs) 0 []) h.di (LP _) hc.hj (Pl.Q5.2 ⟨by simp only [Pl.jmk]; omega,by simp only [Pl.jmk]; omega,Int.le_refl _,by simp only [Pl.jmk]; omega,by simp [Pl.jmk]⟩) (by simp only [Pl.jmk,LA]; omega) hb
 have htk:=tk_same (M:=(max oo nn).toNat) (fun j hj=>j4 j (by omega))
 unfold Pl.Ap.fin
 rw [LH (fun h=>h j1)]
 exact ⟨rfl,j3,rfl,by simp only; rw [htk,h.fi]⟩
theorem YP(hc:CtOk sz f N b k oo nn fl cs)(h:Good sz f N b oo nn fl cs bud i A)(hi:i≤(Pl.Qd b cs).length)(hsg:A.sg=true→i<(Pl.Qd b cs).length∧(Pl.jla A.S).of=(Pl.JB b cs i).to∧(Pl.jla A.S).bs=Pl.wrt (Fi nn b fl cs i) (Pl.JB b cs i)):Pl.SidP f N b oo nn (Pl.apl fl cs nn.toNat) cs A:=by
 have hon:=hc.hN.on
 have hm:=Good.leM hc h.di
 have hlen:=hc.len
 refine ⟨h.di.dn,by rw [h.di.hsz]; exact hc.sl,by rw [h.di.hcnt]; exact LP _,h.sn,by rw [h.di.ca,h.di.hcnt]; have:=hc.cn; simp only [LA]; omega,by rw [h.nx,hlen]; omega,Good.on hc h.di (Int.le_refl _) (by omega) (by omega),Good.on hc h.di (Int.le_refl _) (by omega) (by omega),h.la,fun hs=>?_,fun _ _ hx=>?_⟩
 · obtain ⟨h1,h2,h3⟩:=hsg hs
   obtain ⟨g1,g2,-⟩:=hc.at h1
   have hw:=wrt_len hc h1
   rw [h2,h3]
   exact ⟨by rw [h.nx,hlen]; omega,g2,Good.on hc h.di g2 (by omega) (by omega)⟩
 · have hie:i=(Pl.Qd b cs).length:=by rw [h.nx,hlen] at hx; omega
   rw [rd_take h.di (Int.le_refl _) (by omega) (M:=(max oo nn).toNat) (by omega) hm.2.2,h.fi,hie]
   exact Fi_end hc
end
section
variable {sz f N:Nat}{b k oo nn:Int}{fl:List UInt8}{cs:List Pl.Cm}
theorem run_good(hc:CtOk sz f N b k oo nn fl cs):∀ (m i:Nat) (A:Pl.Ap) (bud:Int),i+m=(Pl.Qd b cs).length→Good sz f N b oo nn fl cs bud i A→A.st≠2→A.sg=false→((f+2*N:Nat):Int)*(2*(m:Int)+1)≤bud →
 ∃ n B,Pl.RunTo (Pl.Ap.step f N b k cs) (Pl.SidP f N b oo nn (Pl.apl fl cs nn.toNat) cs) n A 0 B∧DI sz (f+2*N) 0 B.D∧B.D.dk.take (max oo nn).toNat=Fi nn b fl cs (Pl.Qd b cs).length
 | 0,i,A,bud,hi,h,hst,hsg,hb=>by
  have hL:=hc.len
  have hs:=YP hc h (by omega) (fun h9=>by rw [hsg] at h9; cases h9)
  rw [show (2*((0:Nat):Int)+1)=1 from rfl,Int.mul_one] at hb
  obtain ⟨g1,g2,g3,g4⟩:=good_fin hc h hb
  have e:Pl.Ap.step f N b k cs A=A.fin f N b k cs:=by
   unfold Pl.Ap.step
   rw [LH hst,LH (by rw [hsg]; decide),LI (by rw [h.nx,hL]; omega)]
  have r:=Pl.RunTo.stop (st:=Pl.Ap.step f N b k cs) hs (.inr (by rw [e]; exact g3))
  rw [e,g1] at r
  exact ⟨0,_,r,g2.mono (by omega),by rw [g4,show i=(Pl.Qd b cs).length from hi]⟩
 | m+1,i,A,bud,hi,h,hst,hsg,hb=>by
  have hL:=hc.len
  have hs:=YP hc h (by omega) (fun h9=>by rw [hsg] at h9; cases h9)
  have hm:((f+2*N:Nat):Int)*(2*((m+1:Nat):Int)+1)=((f+2*N:Nat):Int)*(2*(m:Int)+1)+2*((f+2*N:Nat):Int):=by
   rw [show (2*((m+1:Nat):Int)+1)=(2*(m:Int)+1)+2 by omega,Int.mul_add ((f+2*N:Nat):Int),Int.mul_comm _ (2:Int)]
  have hp:(0:Int)≤((f+2*N:Nat):Int)*(2*(m:Int)+1):=Int.mul_nonneg (by omega) (by omega)
  rw [hm] at hb
  obtain ⟨g1,g2,g3,g4⟩:=good_exec (k:=k) hc h (by omega) (by omega)
  have e:Pl.Ap.step f N b k cs A=A.exec f N b k cs:=by
   unfold Pl.Ap.step
   rw [LH hst,LH (by rw [hsg]; decide),LH (by rw [h.nx,hL]; omega)]
  obtain ⟨n,B,r,r2⟩:=run_good hc m (i+1) _ _ (by omega) g2 (by rw [g3]; decide) g4 (by omega)
  refine ⟨n+1,B,.next hs (by rw [e]; exact g1) (by rw [e,g3]; decide) ?_,r2⟩
  rw [e]
  exact r
theorem run_staged(hc:CtOk sz f N b k oo nn fl cs){m i:Nat}{A:Pl.Ap}{bud:Int}(hi:i+1+m=(Pl.Qd b cs).length)(h:Good sz f N b oo nn fl cs bud i A)(hst:A.st≠2)(hsg:A.sg=true)(ho:(Pl.jla A.S).of=(Pl.JB b cs i).to)(hd:(Pl.jla A.S).bs=Pl.wrt (Fi nn b fl cs i) (Pl.JB b cs i))(hb:((f+2*N:Nat):Int)*(2*(m:Int)+1)+2*((f+2*N:Nat):Int)≤bud) :
 ∃ n B,Pl.RunTo (Pl.Ap.step f N b k cs) (Pl.SidP f N b oo nn (Pl.apl fl cs nn.toNat) cs) n A 0 B∧DI sz (f+2*N) 0 B.D∧B.D.dk.take (max oo nn).toNat=Fi nn b fl cs (Pl.Qd b cs).length:=by
 have hp:(0:Int)≤((f+2*N:Nat):Int)*(2*(m:Int)+1):=Int.mul_nonneg (by omega) (by omega)
 have hs:=YP hc h (by omega) (fun _=>⟨by omega,ho,hd⟩)
 obtain ⟨g1,g2,g3,g4⟩:=good_redo hc h (by omega) (by omega) ho hd
 have e:Pl.Ap.step f N b k cs A=A.redo:=by
  unfold Pl.Ap.step
  rw [LH hst,LI hsg]
 obtain ⟨n,B,r,r2⟩:=run_good hc m (i+1) _ _ (by omega) g2 (by rw [g3]; decide) g4 (by omega)
 refine ⟨n+1,B,.next hs (by rw [e]; exact g1) (by rw [e,g3]; decide) ?_,r2⟩
 rw [e]
 exact r
end
theorem steps_mem{s:Int}:∀ {cs:List Pl.Cm} {b:Nat} {p:Nat×Pl.Cm},p∈Pl.steps s b cs→∃ c∈cs,p.2∈Pl.chunks c s
 | [],b,p,h=>by cases h
 | c::r,b,p,h=>by
  unfold Pl.steps at h
  rcases Ls.1 h with h | h
  · obtain ⟨d,hd,rfl⟩:=Ln.1 h
    exact ⟨c,Lo ..,hd⟩
  · obtain ⟨d,hd,h2⟩:=steps_mem h
    exact ⟨d,LX _ hd,h2⟩
theorem first_bnd{s M:Int}(hM:0≤M):∀ {cs:List Pl.Cm},(∀ c∈cs,Pl.Ji c s≤M)→Pl.first s cs cs.length≤cs.length*M
 | [],_=>by simp [Pl.first]
 | c::r,h=>by
  have h1:=first_bnd hM fun x hx=>h x (LX _ hx)
  have h2:=h c (Lo ..)
  rw [Li,show Pl.first s (c::r) (r.length+1)=Pl.Ji c s+Pl.first s r r.length from rfl,show ((r.length+1:Nat):Int)=(r.length:Int)+1 by omega,Int.add_mul,Int.one_mul]
  omega
theorem total_some{M:Int}(hM:0≤M):∀ (es:List (Int×Int)) (n:Int),(∀ e∈es,e.2≤M)→n+es.length*M≤4611686018427387903→(Pl.total n es).isSome=true
 | [],_,_,_=>rfl
 | e::r,n,h,hn=>by
  have h1:=h e (Lo ..)
  have h2:(0:Int)≤(r.length:Int)*M:=Int.mul_nonneg (by omega) hM
  rw [Li,show ((r.length+1:Nat):Int)=(r.length:Int)+1 by omega,Int.add_mul,Int.one_mul] at hn
  unfold Pl.total
  rw [LH (by omega)]
  exact total_some hM r _ (fun x hx=>h x (LX _ hx)) (by omega)
theorem nw_of{b oo nn:Int}{fl:List UInt8}{ds:List Pl.Cm}(ho:oo=fl.length)(hfl:fl.length≤300)(hn:nn≤300)(hl:ds.length≤20)(hv:Pl.VD oo nn ds)(hs:Pl.Safe ds)(hb:1≤b∧b≤300):NwOk b oo nn fl ds:=by
 have hln:=hv.lens
 have one:∀ c∈ds,Pl.ccheck c=0∧Pl.Ji c b≤300∧Pl.clen c≤300∧(c.k=1→c.fr+c.ln≤oo)∧c.to+Pl.clen c≤nn:=fun c hc=>by
  obtain ⟨h1,h2,h3⟩:=Pl.Jw (hv.one c hc)
  have h4:=Pl.Jl h1
  have h5:=Pl.J9 h1 hb.1
  exact ⟨h1,by omega,by omega,h2,h3⟩
 have hfi:=first_bnd (s:=b) (M:=300) (by omega) (cs:=ds) fun c hc=>(one c hc).2.1
 refine ⟨hl,ho,hv,hs,by omega,fun c hc=>⟨(one c hc).1,by have:=(one c hc).2.1; omega⟩,by omega,by omega,fun p hp=>?_,?_⟩
 · obtain ⟨c,hc,hd⟩:=steps_mem hp
   obtain ⟨h1,h2,h3,h4,h5⟩:=one c hc
   have h9:=Pl.Jl h1
   unfold Pl.chunks at hd
   rw [LH (by omega)] at hd
   obtain ⟨k,hk,e⟩:=Ln.1 hd
   have hkk:=List.mem_range.1 hk
   have hk2:(0:Int)≤(k:Int)∧(k:Int)<Pl.Ji c b:=by omega
   have g1:=Pl.Xj h1 hk2
   obtain ⟨g2,g3,g4,g5⟩:=Pl.chAt_check h1 hk2
   have g6:=Pl.Jl g2
   have g7:=Pl.chAt_fr h1 hk2
   rw [e] at g2 g3 g4 g5 g6 g7
   refine ⟨by omega,fun h=>?_,fun h=>?_⟩
   · have:=g7 (by omega)
     have:=h4 (by omega)
     omega
   · omega
 · refine total_some (M:=300) (by omega) _ _ (fun e he=>?_) (by unfold Pl.targets; rw [Lj]; omega)
   obtain ⟨c,hc,rfl⟩:=Ln.1 he
   exact (one c hc).2.2.1
theorem fenc_le{oo nn:Int}{H:Nat→UInt8}{ds:List Pl.Cm}(hl:ds.length≤20)(h:∀ c∈ds,c.bs.length≤1000000):(Pl.fenc oo nn H ds).length≤1000000000000:=by
 have h1:=fpre_le oo nn H ds.length
 have h2:=cenc_le h
 unfold Pl.fenc
 rw [Lc]
 omega
theorem sN_bnd{sz M:Nat}(hs:1≤sz):Pl.sN sz 0 M≤M∧M≤Pl.sN sz 0 M*sz:=by
 have h1:=Pl.s_last (sz:=sz) (a:=0) (b:=M) hs
 have h2:Pl.sF sz 0 M=0:=by unfold Pl.sF; split <;> simp
 rw [h2,LV,LV] at h1
 refine ⟨?_,by omega⟩
 unfold Pl.sN
 split
 · omega
 · rw [Nat.zero_div,LV]
   have:=Nat.div_le_self (M-1) sz
   omega
theorem lay_law{sz:Nat}{b oo nn:Int}{fl:List UInt8}(ho:oo=fl.length)(hfl:fl.length≤300)(hn:0≤nn∧nn≤300)(hsz:1≤sz∧sz≤1000)(hb:1≤b∧b≤300) :
 ∃ f N:Nat,Pl.X7 sz b oo nn=0∧Pl.layF sz oo nn=(f:Int)∧Pl.slot sz b=(N:Int)∧N≠0∧Pl.right sz ((f+2*N:Nat):Int) fl.length=true∧max oo nn≤((f*sz:Nat):Int)∧b+44≤(N:Int)*(sz:Int)∧f+2*N≤1000∧fl.length≤(f+2*N)*sz∧(f+2*N)*sz≤1048576:=by
 have hsb:=Pl.slot_bnd (sz:Int) b
 have hz:=mt (Pl.slot_zero (sz:Int) b).1 (by omega)
 obtain ⟨M,hM⟩:∃ M:Nat,max oo nn=(M:Int):=⟨(max oo nn).toNat,by omega⟩
 obtain ⟨N,hN⟩:∃ N:Nat,Pl.slot (sz:Int) b=(N:Int):=⟨(Pl.slot (sz:Int) b).toNat,by omega⟩
 have hsn:=Pl.secs_nat (sz:=sz) (a:=0) (b:=M) hsz.1 (by omega)
 have hf:=sN_bnd (sz:=sz) (M:=M) hsz.1
 have hsf:=Pl.slot_fit hN (by omega)
 have hN1:(N:Int)-1≤((N:Int)-1)*(sz:Int):=by
  have:=Int.mul_le_mul_of_nonneg_left (show (1:Int)≤(sz:Int) by omega) (show (0:Int)≤(N:Int)-1 by omega)
  rwa [Int.mul_one] at this
 refine ⟨Pl.sN sz 0 M,N,?_,?_,hN,by omega,?_⟩
 · unfold Pl.X7
   rw [LH hz,LH (by rw [Pl.VU.2 (by omega),Pl.VU.2 (by omega)]; simp)]
 · unfold Pl.layF
   rw [hM]
   exact LM Prod.snd hsn
 · generalize Pl.sN sz 0 M=F at hf
   have h1:F*sz≤(F+2*N)*sz:=Lr _ (Nat.le_add_right _ _)
   have h2:(F+2*N)*sz≤1000*1000:=Nat.mul_le_mul (by omega) hsz.2
   have h3:(sz:Int)*((F+2*N:Nat):Int)=(((F+2*N)*sz:Nat):Int):=by rw [Int.natCast_mul,Int.mul_comm]
   refine ⟨?_,by omega,by omega,by omega,by omega,by omega⟩
   unfold Pl.right
   rw [LO,h3]
   omega
theorem new_none{sz f N:Nat}{fl:List UInt8}{n p:Int}(hs:1≤sz)(hN:N≠0)(hb:fl.length≤f*sz)(hx:(f+2*N)*sz≤1048576)(k:Int)(hn:Pl.I64 n)(hp:0≤p∧p≤18446744073709551615):Pl.jopen (Pl.aDv (Pl.nDv sz (f+2*N) fl) n p) f N k=⟨1,false,Pl.rc0⟩:=by
 have h1:f*sz≤(f+2*N)*sz:=Lr _ (Nat.le_add_right _ _)
 have hk:Pl.okDv (Pl.aDv (Pl.nDv sz (f+2*N) fl) n p):=Pl.ok_arm (Pl.ok_new hs (by omega) hx (by omega)) hn hp
 have hz:∀ i,i<2→Pl.jrec (Pl.aDv (Pl.nDv sz (f+2*N) fl) n p) f N i=none:=fun i hi=>by
  have hj:=Pl.jat_le (D:=Pl.aDv (Pl.nDv sz (f+2*N) fl) n p) (f:=f) (N:=N) (LP _) hi
  refine Pl.jrec_zero hk rfl (by omega) (LP _) hi fun j h3 h4=>?_
  have h5:f*sz≤Pl.jat (Pl.aDv (Pl.nDv sz (f+2*N) fl) n p) f N i:=Lr sz (Nat.le_add_right _ _)
  have h6:j<(f+2*N)*sz:=Nat.lt_of_lt_of_le h4 hj
  show (fl++List.replicate ((f+2*N)*sz-fl.length) 0)[j]?=some 0
  rw [L6 (by omega),List.getElem?_replicate,LI (by omega)]
 unfold Pl.jopen Pl.jrecs
 rw [hz 0 (by decide),hz 1 (by decide)]
 rfl
theorem rw_law{sz:Nat}{b oo nn:Int}{fl:List UInt8}{cs:List CmdV}{ds:List Pl.Cm}(ho:oo=fl.length)(hfl:fl.length≤300)(hn:nn≤300)(hl:cs.length≤20)(hv:Pl.VD oo nn (cs.map CmdV.cm))(hsz:1≤sz∧sz≤1000)(hb:1≤b∧b≤300)(ha:Pl.Arr fl cs ds):Pl.RwTo sz b oo nn fl [] 1 ds:=by
 obtain ⟨hvd,-,hlen⟩:=arr_vd ho hv ha
 have hln:=hv.lens
 have hN:=nw_of (b:=b) ho hfl hn (by omega) hvd (arr_safe hv ha) hb
 obtain ⟨f,N,l1,l2,l3,l4,l5,l6,l7,l8,l9,l10⟩:=lay_law ho hfl ⟨hln.2.1,hn⟩ hsz hb
 have hbs:∀ c∈ds,c.bs.length≤1000000:=fun c hc=>by
  obtain ⟨h1,h2,h3⟩:=Pl.Jw (hvd.one c hc)
  have h4:=Pl.Jl h1
  rcases h4.1 with h | h
  · rw [h.2.2.1]; simp
  · omega
 have hH:=fenc_le (oo:=oo) (nn:=nn) (H:=Pl.hh (Pl.sha fl) (Pl.sha (Pl.apl fl ds nn.toNat))) hN.few hbs
 obtain ⟨kid,hk⟩:∃ kid,Pl.fid (Pl.fenc oo nn (Pl.hh (Pl.sha fl) (Pl.sha (Pl.apl fl ds nn.toNat))) ds)=kid:=⟨_,rfl⟩
 have hkb:0≤kid∧kid≤18446744073709551615:=by rw [← hk]; exact Pl.ruint_bnd _ _ _
 have hc:CtOk sz f N b kid oo nn fl ds:=⟨hN,hsz.1,l6,l7,l3,by omega⟩
 have hno:=new_none (fl:=fl) (n:=-1) (p:=0) hsz.1 l4 (by omega) l10 kid (by unfold Pl.I64; omega) (by omega)
 have hok:Pl.okDv (Pl.aDv (Pl.nDv sz (f+2*N) fl) (-1) 0):=Pl.ok_arm (Pl.ok_new hsz.1 (by omega) l10 l9) (by unfold Pl.I64; omega) (by omega)
 obtain ⟨A,hA⟩:∃ A:Pl.Ap,A=⟨Pl.aDv (Pl.nDv sz (f+2*N) fl) (-1) 0,⟨1,false,Pl.rc0⟩,0,0,false⟩:=⟨_,rfl⟩
 have hdi:DI sz (f+2*N) 4611686018427387903 A.D:=by
  rw [hA]
  exact ⟨hok,rfl,by show max (-1:Int) (-1)<0; decide,rfl,rfl,rfl,by show (0:Int)≤0∧(0:Int)+4611686018427387903≤4611686018427387903; decide⟩
 have hmx:=Good.leM (A:=A) hc hdi
 have hdk:A.D.dk=fl++List.replicate ((f+2*N)*sz-fl.length) 0:=by rw [hA]; rfl
 have hM:fl.length≤(max oo nn).toNat∧(max oo nn).toNat=fl.length+(nn-fl.length).toNat:=by omega
 have hg:Good sz f N b oo nn fl ds 4611686018427387903 0 A:=by
  refine ⟨hdi,?_,by rw [hA]; rfl,by rw [hA]; show (0:Int)≤1∧(1:Int)≤18446744073709551615; decide,by rw [hA]; exact LL _⟩
  unfold Fi Pl.extd
  rw [hdk,List.take_zero,List.foldl_nil,List.take_append,LZ hM.1,List.take_replicate]
  congr 2
  omega
 have hLL:=hc.len
 have hfb:=first_bnd (s:=b) (M:=300) (by omega) (cs:=ds) fun c hc=>by
  obtain ⟨h1,h2,h3⟩:=Pl.Jw (hvd.one c hc)
  have h4:=Pl.Jl h1
  have h5:=Pl.J9 h1 hb.1
  omega
 unfold Pl.JF at hLL
 have hbud:((f+2*N:Nat):Int)*(2*((Pl.Qd b ds).length:Int)+1)≤4611686018427387903:=by
  have:=Int.mul_le_mul (show ((f+2*N:Nat):Int)≤1000 by omega) (show (2*((Pl.Qd b ds).length:Int)+1)≤20000 by omega) (by omega) (by omega)
  omega
 obtain ⟨n,B,r1,r2,r3⟩:=run_good hc (Pl.Qd b ds).length 0 A _ (by omega) hg (by rw [hA]; show (0:Int)≠2; decide) (by rw [hA]) hbud
 refine ⟨f,N,kid,Pl.sDv B.D,hk,hkb,hH,hN,l1,l2,l3,l4,l5,.last ?_ (by decide),?_,?_⟩
 · refine ⟨rfl,l1,l2,l3,LP _,by rw [hno]; exact LL _,fun h=>by (rw [hno] at h; cases h),fun _=>?_,⟨n,B,?_,rfl,by rw [r2.ca]; exact LL _⟩⟩
   · have:=rd_take (D:=A.D) hdi (a:=0) (n:=oo) (M:=(max oo nn).toNat) (by omega) (by omega) (by omega) hmx.2.2
     rw [hA] at this
     refine this.trans ?_
     have e2:((Pl.nDv sz (f+2*N) fl).dk.take (max oo nn).toNat).take oo.toNat=fl:=by
      rw [List.take_take,show min oo.toNat (max oo nn).toNat=fl.length by omega]
      exact Pl.new_take _ _ _
     exact e2
   · rw [hno]
     rw [hA] at r1
     exact r1
 · show (Pl.pers _ _ _ _ _).take _=_
   rw [Pl.Xl,← Fi_end hc,← r3,List.take_take,show min nn.toNat (max oo nn).toNat=nn.toNat by omega]
 · show _≤(Pl.pers _ _ _ _ _).length
   rw [Pl.Xl,r2.ok.len,r2.hcnt,r2.hsz]
   omega
def arm(D:Pl.Dv)(w p:Int):Pl.Dv:={ D with wr:=w,kp:=p }
theorem sec_up{D:Pl.Dv}{a i:Nat}{bs:List UInt8}(hd:D.dn=false)(hi:i<D.cnt)(hw:D.wr<0):Pl.wrS a bs 1 i D=(0,Pl.VB D (i:Int) (Pl.VK D.sz (Pl.rdS D (i:Int)) a bs i)):=by
 have hx:=Pl.Xp D.sz (Pl.rdS D (i:Int)) a bs i
 have hc:Pl.JI D (i:Int)=0:=by unfold Pl.JI; rw [LH (by simp [hd]),LH (by omega)]
 have e1:Pl.Yt D (i:Int) (Pl.VK D.sz (Pl.rdS D (i:Int)) a bs i)=0:=by rw [Pl.Xn hc hx,LH (by omega)]
 have e3:=Pl.wDv_off hc hx hw
 simp only [Pl.wrS]
 rw [LH (fun h=>h hc),LH (fun h=>h e1),e3]
theorem sec_arm{D:Pl.Dv}{a i:Nat}{bs:List UInt8}{w p:Int}(hd:D.dn=false)(hi:i<D.cnt)(hw:D.wr<0)(h0:0<w):Pl.wrS a bs 1 i (arm D w p)=((Pl.wrS a bs 1 i D).1,arm (Pl.wrS a bs 1 i D).2 (w-1) p):=by
 have hx:=Pl.Xp D.sz (Pl.rdS D (i:Int)) a bs i
 have hc:Pl.JI (arm D w p) (i:Int)=0:=by unfold Pl.JI; rw [LH (by simp [arm,hd]),LH (by simp only [arm]; omega)]
 have e1:Pl.Yt (arm D w p) (i:Int) (Pl.VK D.sz (Pl.rdS D (i:Int)) a bs i)=0:=by rw [Pl.Xn hc hx,LH (by simp only [arm]; omega)]
 have e3:=Pl.wDv_on (D:=arm D w p) hc hx h0
 rw [sec_up hd hi hw]
 simp only [Pl.wrS]
 rw [LH (fun h=>h hc)]
 refine (LH (fun h=>h e1)).trans ?_
 exact LM (Prod.mk 0) e3
theorem sec_crash{D:Pl.Dv}{a i:Nat}{bs:List UInt8}{p:Int}(hd:D.dn=false)(hi:i<D.cnt):Pl.wrS a bs 1 i (arm D 0 p)=(18,{ Pl.persist { Pl.VB (arm D 0 p) (i:Int) (Pl.VK D.sz (Pl.rdS D (i:Int)) a bs i) with wr:=-1 } (Pl.keepB p) with dn:=true,sC:=Pl.inc D.sC }):=by
 have hx:=Pl.Xp D.sz (Pl.rdS D (i:Int)) a bs i
 have hc:Pl.JI (arm D 0 p) (i:Int)=0:=by unfold Pl.JI; rw [LH (by simp [arm,hd]),LH (by simp only [arm]; omega)]
 have e1:Pl.Yt (arm D 0 p) (i:Int) (Pl.VK D.sz (Pl.rdS D (i:Int)) a bs i)=18:=(Pl.Xn hc hx).trans (LI rfl)
 have e3:=Pl.wDv_cr (D:=arm D 0 p) hc hx rfl
 simp only [Pl.wrS]
 rw [LH (fun h=>h hc)]
 refine (LI (fun h=>absurd (e1.symm.trans h) (by decide))).trans ?_
 exact Prod.ext e1 e3
theorem fDv_arm(D:Pl.Dv)(w p:Int):Pl.fDv (arm D w p)=arm (Pl.fDv D) w p∧Pl.QS (arm D w p)=Pl.QS D:=by
 refine ⟨?_,rfl⟩
 unfold Pl.fDv
 by_cases h:D.dn=true
 · rw [LI h,LI (show (arm D w p).dn=true from h)]
 · rw [LH h,LH (show ¬ (arm D w p).dn=true from h)]; rfl
theorem wrF_arm{D:Pl.Dv}{a:Nat}{bs:List UInt8}{w p:Int}(hd:D.dn=false)(hn:Pl.sN D.sz a bs.length=1)(hi:Pl.sF D.sz a bs.length<D.cnt)(hw:D.wr<0)(h0:0<w):Pl.wrF (arm D w p) a bs=((Pl.wrF D a bs).1,arm (Pl.wrF D a bs).2 (w-1) p):=by
 have h1:=sec_arm (a:=a) (bs:=bs) (p:=p) hd hi hw h0
 unfold Pl.wrF
 rw [show (arm D w p).sz=D.sz from rfl,hn,h1]
 simp only
 rw [(fDv_arm _ _ _).1,(fDv_arm _ _ _).2]
 split <;> rfl
theorem japp_arm{D:Pl.Dv}{f N:Nat}{b w p:Int}{S:Pl.Jn}{r:Pl.Rc}(hd:D.dn=false)(hn:Pl.sN D.sz (Pl.jat D f N (Pl.Jo S)) (Pl.renc r).length=1)(hi:Pl.sF D.sz (Pl.jat D f N (Pl.Jo S)) (Pl.renc r).length<D.cnt)(hw:D.wr<0)(h0:0<w)(ha:Pl.rright r=true∧(r.bs.length:Int)≤b) :
 Pl.japp (arm D w p) f N b S r=((Pl.japp D f N b S r).1,arm (Pl.japp D f N b S r).2.1 (w-1) p,(Pl.japp D f N b S r).2.2):=by
 have h1:=sec_arm (a:=Pl.jat D f N (Pl.Jo S)) (bs:=Pl.renc r) (p:=p) hd hi hw h0
 have h2:Pl.jwr (arm D w p) f N S r=((Pl.jwr D f N S r).1,arm (Pl.jwr D f N S r).2 (w-1) p):=by
  unfold Pl.jwr
  rw [show (arm D w p).sz=D.sz from rfl,show Pl.jat (arm D w p) f N (Pl.Jo S)=Pl.jat D f N (Pl.Jo S) from rfl,hn,h1]
 unfold Pl.japp
 rw [LI ha,LI ha]
 unfold Pl.jgo
 rw [h2]
 simp only
 rw [(fDv_arm _ _ _).1,(fDv_arm _ _ _).2]
 split
 · rfl
 · split <;> rfl
section
variable {sz f N:Nat}{b k oo nn:Int}{fl:List UInt8}{cs:List Pl.Cm}{bud:Int}{i:Nat}{A:Pl.Ap}
def Vs(k b nn:Int)(fl:List UInt8)(cs:List Pl.Cm)(S:Pl.Jn)(i:Nat):Pl.Rc:=Pl.jmk S k (i:Int) (Pl.JB b cs i).to (Pl.wrt (Fi nn b fl cs i) (Pl.JB b cs i))
theorem recI_ok(hc:CtOk sz f N b k oo nn fl cs)(hk:0≤k∧k≤18446744073709551615)(h:Good sz f N b oo nn fl cs bud i A)(hi:i<(Pl.Qd b cs).length):Pl.okRc (Vs k b nn fl cs A.S i)∧Pl.rright (Vs k b nn fl cs A.S i)=true∧((Vs k b nn fl cs A.S i).bs.length:Int)≤b:=by
 obtain ⟨h1,h2,h3,h4⟩:=hc.at hi
 have hw:=wrt_len hc hi
 have hon:=hc.hN.on
 have hlen:=hc.len
 have hmx:=hc.hN.mx
 have hbn:=hc.hN.bn
 have hsn:=h.sn
 have hL:Pl.JF b cs=Pl.first b cs cs.length:=rfl
 unfold Vs Pl.jmk
 refine ⟨⟨hsn,hk,?_,?_⟩,Pl.Q5.2 ?_,hw.1⟩ <;> simp only [Pl.I64] <;> omega
theorem exec_eq(hc:CtOk sz f N b k oo nn fl cs)(h:Good sz f N b oo nn fl cs bud i A)(hi:i<(Pl.Qd b cs).length)(w p:Int):Pl.Ap.exec f N b k cs ⟨arm A.D w p,A.S,A.st,A.nx,A.sg⟩=Pl.Ap.put ⟨arm A.D w p,A.S,A.st,A.nx,A.sg⟩ (Pl.japp (arm A.D w p) f N b A.S (Vs k b nn fl cs A.S i)) (Pl.JB b cs i).to (Pl.wrt (Fi nn b fl cs i) (Pl.JB b cs i)):=by
 have hx:A.nx.toNat=i:=by rw [h.nx]; rfl
 have hb:Pl.Ap.bts ⟨arm A.D w p,A.S,A.st,A.nx,A.sg⟩ (Pl.JB b cs i)=Pl.wrt (Fi nn b fl cs i) (Pl.JB b cs i):=(show _=A.bts (Pl.JB b cs i) from rfl).trans (Good.bts hc h hi)
 unfold Pl.Ap.exec
 rw [show (Pl.Ap.mk (arm A.D w p) A.S A.st A.nx A.sg).nx.toNat=i from hx,hb]
 unfold Vs
 rw [← h.nx]
theorem exec_eq0(hc:CtOk sz f N b k oo nn fl cs)(h:Good sz f N b oo nn fl cs bud i A)(hi:i<(Pl.Qd b cs).length):Pl.Ap.exec f N b k cs A=A.put (Pl.japp A.D f N b A.S (Vs k b nn fl cs A.S i)) (Pl.JB b cs i).to (Pl.wrt (Fi nn b fl cs i) (Pl.JB b cs i)):=exec_eq hc h hi A.D.wr A.D.kp
theorem japp_slot{D:Pl.Dv}{S:Pl.Jn}{r:Pl.Rc}(h:DI sz (f+2*N) bud D)(hj:b+44≤(N:Int)*(sz:Int))(hr:Pl.rright r=true)(ho:Pl.okRc r)(hl:(r.bs.length:Int)≤b)(hb:((f+2*N:Nat):Int)≤bud) :
 Pl.QX (Pl.japp D f N b S r).2.1 f N (Pl.Jo S) (some r)∧∀ q o,q<2→q≠Pl.Jo S→Pl.QX D f N q o→Pl.QX (Pl.japp D f N b S r).2.1 f N q o:=by
 have hEl:=Pl.VC r
 have hcast:((N*D.sz:Nat):Int)=(N:Int)*(D.sz:Int):=Int.natCast_mul N D.sz
 have hsz:=h.hsz
 have hcn:=h.hcnt
 rw [hsz] at hcast
 have hon:Pl.onD D ((Pl.jat D f N (Pl.Jo S):Nat):Int) ((Pl.renc r).length:Int)=true:=Pl.jon h.ok (by omega) (Pl.Xv S) (by rw [hsz]; omega)
 have e:Pl.japp D f N b S r=Pl.jgo D f N S r:=LI ⟨hr,hl⟩
 obtain ⟨w1,w2,w3,w4⟩:=wr_up h hon hb
 rw [e]
 unfold Pl.jgo Pl.jwr
 rw [LH (fun h=>h w1),LH (fun h=>h w2)]
 have hat:∀ q,Pl.jat (Pl.fDv (Pl.wrS (Pl.jat D f N (Pl.Jo S)) (Pl.renc r) (Pl.sN D.sz (Pl.jat D f N (Pl.Jo S)) (Pl.renc r).length) (Pl.sF D.sz (Pl.jat D f N (Pl.Jo S)) (Pl.renc r).length) D).2) f N q=Pl.jat D f N q:=fun q=>LM (fun z=>(f+q*N)*z) (w3.hsz.trans hsz.symm)
 refine ⟨⟨ho,hr,by rw [w3.hsz]; omega,fun j hjj=>?_⟩,fun q o hq hne hs=>?_⟩
 · rw [hat,w4,LI (by omega),Kk]
 · exact hs.keep (L:=(Pl.renc r).length) (q:=Pl.Jo S) (by rw [w3.hsz,hsz]) hq (Pl.Xv S) hne (by rw [hsz]; omega) fun j hjj=>by rw [w4,LH hjj]
theorem slot_file{D E:Pl.Dv}{q:Nat}{o:Option Pl.Rc}(hs:E.sz=D.sz)(h:Pl.QX D f N q o)(hdk:∀ j,f*D.sz≤j→E.dk[j]?=D.dk[j]?):Pl.QX E f N q o:=by
 have hat:Pl.jat E f N q=Pl.jat D f N q:=by unfold Pl.jat; rw [hs]
 have hle:f*D.sz≤Pl.jat D f N q:=Lr _ (Nat.le_add_right _ _)
 cases o with
 | none=>intro j hj; rw [hat,hdk _ (by omega)]; exact h j (by rw [← hs]; exact hj)
 | some r=>
  obtain ⟨h1,h2,h3,h4⟩:=h
  exact ⟨h1,h2,by rw [hs]; exact h3,fun j hj=>by rw [hat,hdk _ (by omega)]; exact h4 j hj⟩
theorem exec_slot(hc:CtOk sz f N b k oo nn fl cs)(hk:0≤k∧k≤18446744073709551615)(h:Good sz f N b oo nn fl cs bud i A)(hi:i<(Pl.Qd b cs).length)(hb:2*((f+2*N:Nat):Int)≤bud) :
 (A.exec f N b k cs).2.S=⟨IntKind.u64.wrap (A.S.nx+1),true,Vs k b nn fl cs A.S i⟩∧Pl.QX (A.exec f N b k cs).2.D f N (Pl.Jo A.S) (some (Vs k b nn fl cs A.S i))∧(∀ q o,q<2→q≠Pl.Jo A.S→Pl.QX A.D f N q o→Pl.QX (A.exec f N b k cs).2.D f N q o) ∧
 ∀ w p,2≤w→Pl.sN sz (Pl.jat A.D f N (Pl.Jo A.S)) (Pl.renc (Vs k b nn fl cs A.S i)).length=1→Pl.sN sz (Pl.JB b cs i).to.toNat (Pl.wrt (Fi nn b fl cs i) (Pl.JB b cs i)).length=1 →
  Pl.Ap.exec f N b k cs ⟨arm A.D w p,A.S,A.st,A.nx,A.sg⟩=(0,⟨arm (A.exec f N b k cs).2.D (w-2) p,(A.exec f N b k cs).2.S,1,A.nx+1,false⟩):=by
 obtain ⟨h1,h2,h3,h4⟩:=hc.at hi
 have hw:=wrt_len hc hi
 have hon:=hc.hN.on
 have hm:=Good.leM hc h.di
 obtain ⟨r1,r2,r3⟩:=recI_ok hc hk h hi
 obtain ⟨j1,j2,j3,j4⟩:=japp_up (S:=A.S) h.di (LP _) hc.hj r2 r3 (by omega)
 obtain ⟨s1,s2⟩:=japp_slot (S:=A.S) h.di hc.hj r2 r1 r3 (by omega)
 have ja:=fun (w p:Int) (h0:0<w) (hn:Pl.sN sz (Pl.jat A.D f N (Pl.Jo A.S)) (Pl.renc (Vs k b nn fl cs A.S i)).length=1) (hx:Pl.sF A.D.sz (Pl.jat A.D f N (Pl.Jo A.S)) (Pl.renc (Vs k b nn fl cs A.S i)).length<A.D.cnt)=>japp_arm (p:=p) h.di.dn (by rw [h.di.hsz]; exact hn) hx h.di.wr h0 ⟨r2,r3⟩
 have ee:=exec_eq hc h hi
 rw [exec_eq0 hc h hi]
 have hEl:=Pl.VC (Vs k b nn fl cs A.S i)
 have hjx:Pl.sF A.D.sz (Pl.jat A.D f N (Pl.Jo A.S)) (Pl.renc (Vs k b nn fl cs A.S i)).length<A.D.cnt:=by
  have h7:=Pl.jat_le (D:=A.D) (f:=f) (N:=N) (by rw [h.di.hcnt]; exact LP _) (Pl.Xv A.S)
  have h8:((N*A.D.sz:Nat):Int)=(N:Int)*(A.D.sz:Int):=Int.natCast_mul N A.D.sz
  have h9:=hc.hj
  rw [h.di.hsz] at h8
  have hz:=h.di.hsz
  rw [← hz] at h9 h8
  have hf:=Pl.s_first (sz:=A.D.sz) (a:=Pl.jat A.D f N (Pl.Jo A.S)) (b:=(Pl.renc (Vs k b nn fl cs A.S i)).length) h.di.ok.sz
  exact Nat.lt_of_mul_lt_mul_right (a:=A.D.sz) (by omega)
 generalize hR:Vs k b nn fl cs A.S i=R at *
 generalize hJ:Pl.japp A.D f N b A.S R=J at *
 have hm2:=Good.leM (A:=⟨J.2.1,J.2.2,A.st,A.nx,A.sg⟩) hc j3
 generalize hW:Pl.wrt (Fi nn b fl cs i) (Pl.JB b cs i)=W at *
 generalize hd:Pl.JB b cs i=d at *
 simp only at hm2
 obtain ⟨w1,w2,w3⟩:=wrF_up (a:=d.to.toNat) (bs:=W) j3 (by
  have:=Good.on (A:=⟨J.2.1,J.2.2,A.st,A.nx,A.sg⟩) hc j3 (a:=d.to) (n:=(W.length:Int)) h2 (by omega) (by omega)
  rw [show ((d.to.toNat:Nat):Int)=d.to by omega]
  exact this) (by omega)
 have e0:A.put J d.to W=(0,⟨(Pl.wrF J.2.1 d.to.toNat W).2,J.2.2,1,A.nx+1,false⟩):=by
  unfold Pl.Ap.put
  rw [LH (fun h=>h j1),LH (fun h=>h w1)]
 rw [e0]
 have hlt:d.to.toNat+W.length≤f*sz:=by have:=hc.hM; omega
 have key:∀ q o,Pl.QX J.2.1 f N q o→Pl.QX (Pl.wrF J.2.1 d.to.toNat W).2 f N q o:=fun q o hs=>slot_file (by rw [w2.hsz,j3.hsz]) hs fun j hj=>by
  rw [j3.hsz] at hj
  rw [w3,LH (by omega)]
 refine ⟨j2,key _ _ s1,fun q o hq hne hs=>key _ _ (s2 q o hq hne hs),fun w p h0 hn1 hn2=>?_⟩
 rw [ee w p,ja w p (by omega) hn1 hjx]
 have hcn:=h.di.hcnt
 have hz:d.to.toNat/sz<f+2*N:=by
  refine (Nat.div_lt_iff_lt_mul hc.s1).2 ?_
  have:W.length≠0:=fun e=>by rw [e] at hn2; cases hn2
  omega
 have ha:=wrF_arm (a:=d.to.toNat) (bs:=W) (w:=w-1) (p:=p) j3.dn (by rw [j3.hsz]; exact hn2) (by rw [j3.hsz,j3.hcnt]; unfold Pl.sF; split <;> omega) j3.wr (by omega)
 unfold Pl.Ap.put
 simp only
 rw [LH (fun h=>h j1),ha]
 simp only
 rw [LH (fun h=>h w1),show w-1-1=w-2 by omega]
theorem exec_crash(hc:CtOk sz f N b k oo nn fl cs)(hk:0≤k∧k≤18446744073709551615)(h:Good sz f N b oo nn fl cs bud i A)(hi:i<(Pl.Qd b cs).length)(hb:((f+2*N:Nat):Int)≤bud)(hb1:1≤bud)(hn:Pl.sN sz (Pl.jat A.D f N (Pl.Jo A.S)) (Pl.renc (Vs k b nn fl cs A.S i)).length=1)(hx:Pl.sF sz (Pl.jat A.D f N (Pl.Jo A.S)) (Pl.renc (Vs k b nn fl cs A.S i)).length<f+2*N) :
 ∃ E:Pl.Dv,Pl.Ap.exec f N b k cs ⟨arm A.D 0 1,A.S,A.st,A.nx,A.sg⟩=(18,⟨E,A.S,A.st,A.nx,A.sg⟩)∧E.ca=[]∧Pl.okDv E∧E.sz=sz∧E.cnt=f+2*N∧E.sW=A.D.sW+1∧E.dk=(Pl.japp A.D f N b A.S (Vs k b nn fl cs A.S i)).2.1.dk:=by
 obtain ⟨r1,r2,r3⟩:=recI_ok hc hk h hi
 rw [exec_eq hc h hi]
 generalize hR:Vs k b nn fl cs A.S i=R at *
 have hsW:=h.di.sW
 have hok:=Pl.Zu (Pl.jat A.D f N (Pl.Jo A.S)) (Pl.renc R) 1 (Pl.sF A.D.sz (Pl.jat A.D f N (Pl.Jo A.S)) (Pl.renc R).length) (arm A.D 0 1) (Pl.ok_arm h.di.ok (n:=0) (k:=1) (by unfold Pl.I64; omega) (by omega)) (by rw [show (arm A.D 0 1).ca=A.D.ca from rfl,h.di.ca]; decide)
 have hcr:=sec_crash (a:=Pl.jat A.D f N (Pl.Jo A.S)) (bs:=Pl.renc R) (p:=1) (i:=Pl.sF A.D.sz (Pl.jat A.D f N (Pl.Jo A.S)) (Pl.renc R).length) h.di.dn (by rw [h.di.hsz,h.di.hcnt]; exact hx)
 have hup:=sec_up (a:=Pl.jat A.D f N (Pl.Jo A.S)) (bs:=Pl.renc R) (i:=Pl.sF A.D.sz (Pl.jat A.D f N (Pl.Jo A.S)) (Pl.renc R).length) h.di.dn (by rw [h.di.hsz,h.di.hcnt]; exact hx) h.di.wr
 rw [hcr] at hok
 have hja:∀ D,D.sz=sz→Pl.japp D f N b A.S R=Pl.jgo D f N A.S R:=fun D _=>LI ⟨r2,r3⟩
 have hn2:Pl.sN A.D.sz (Pl.jat A.D f N (Pl.Jo A.S)) (Pl.renc R).length=1:=by rw [h.di.hsz]; exact hn
 have hjw:∀ D:Pl.Dv,D.sz=A.D.sz→Pl.jwr D f N A.S R=Pl.wrS (Pl.jat A.D f N (Pl.Jo A.S)) (Pl.renc R) 1 (Pl.sF A.D.sz (Pl.jat A.D f N (Pl.Jo A.S)) (Pl.renc R).length) D:=fun D hD=>by
  have hat:Pl.jat D f N (Pl.Jo A.S)=Pl.jat A.D f N (Pl.Jo A.S):=by unfold Pl.jat; rw [hD]
  unfold Pl.jwr
  rw [hD,hat,hn2]
 rw [hja (arm A.D 0 1) h.di.hsz,hja A.D h.di.hsz]
 unfold Pl.jgo
 rw [hjw (arm A.D 0 1) rfl,hjw A.D rfl,hcr,hup]
 refine ⟨_,rfl,rfl,hok.1,h.di.hsz,h.di.hcnt,?_,?_⟩
 · show Pl.inc A.D.sW=_
   unfold Pl.inc
   exact Pl.i64wP (by omega) (by omega)
 · have hca:=h.di.ca
   have e1:Pl.QS (Pl.VB A.D ((Pl.sF A.D.sz (Pl.jat A.D f N (Pl.Jo A.S)) (Pl.renc R).length:Nat):Int) (Pl.VK A.D.sz (Pl.rdS A.D ((Pl.sF A.D.sz (Pl.jat A.D f N (Pl.Jo A.S)) (Pl.renc R).length:Nat):Int)) (Pl.jat A.D f N (Pl.Jo A.S)) (Pl.renc R) (Pl.sF A.D.sz (Pl.jat A.D f N (Pl.Jo A.S)) (Pl.renc R).length)))=0:=by
    unfold Pl.QS
    rw [show (Pl.VB A.D _ _).dn=A.D.dn from rfl,h.di.dn]
    rfl
   simp only
   rw [LI (show (18:Int)≠0 by decide),LH (show ¬ (0:Int)≠0 from fun h=>h rfl),LH (fun h=>h e1)]
   unfold Pl.fDv
   rw [LH (by rw [show (Pl.VB A.D _ _).dn=A.D.dn from rfl,h.di.dn]; decide)]
   show Pl.pers A.D.sz (Pl.keepB 1) 0 A.D.dk (A.D.ca++[_])=Pl.pers A.D.sz (fun _=>true) 0 A.D.dk (A.D.ca++[_])
   rw [hca,L4]
   have hkb:Pl.keepB 1 0=true:=by decide
   simp only [Pl.pers,hkb]
end
theorem path_src{E:List (Int×Int)}{a b:Int}(h:Pl.Path E a b):∃ c,(a,c)∈E:=by
 induction h with
 | one h=>exact ⟨_,h⟩
 | more _ _ ih=>exact ih
theorem Vp{E:List (Int×Int)}{ss:List Int}{e:Int×Int}:e∈Pl.wo E ss↔e∈E∧e.1∉ss∧e.2∉ss:=by
 unfold Pl.wo
 simp only [L5,LJ,LO]
def RunE(E:List (Int×Int)):Prop:=∀ e,e∈E↔e=((0:Int),(1:Int))∨e=((0:Int),(2:Int))∨e=((2:Int),(0:Int))
theorem run_evs{E:List (Int×Int)}(hE:RunE E){evd:List Int}(h:Pl.Evs E [3,0,3] [1] evd):evd=[]∨evd=[0]:=by
 induction h with
 | nil=>exact .inl rfl
 | step h hc hl ih=>
  rename_i ss l
  rcases ih with rfl | rfl
  · right
    have key:∀ v,v∈l↔v=0∨v=2:=fun v=>by
     rw [hc.2 v]
     have h02:((0:Int),(2:Int))∈Pl.wo E []:=Vp.2 ⟨(hE _).2 (by simp),by simp,by simp⟩
     have h20:((2:Int),(0:Int))∈Pl.wo E []:=Vp.2 ⟨(hE _).2 (by simp),by simp,by simp⟩
     constructor
     · intro hp
       obtain ⟨c,hc⟩:=path_src hp
       rcases (hE _).1 (Vp.1 hc).1 with h | h | h <;> cases h <;> simp
     · rintro (rfl | rfl)
       · exact .more (.one h02) h20
       · exact .more (.one h20) h02
    have hl2:l=[0,2]:=by
     have hs:=hc.1
     have k0:=(key 0).2 (.inl rfl)
     have k2:=(key 2).2 (.inr rfl)
     rcases l with _ | ⟨a,_ | ⟨b,_ | ⟨c,r⟩⟩⟩
     · cases k0
     · simp only [Lf] at k0 k2; omega
     · have ka:=(key a).1 (by simp)
       have kb:=(key b).1 (by simp)
       have h1:a<b:=by simpa using hs
       rw [show a=0 by omega,show b=2 by omega]
     · have ka:=(key a).1 (by simp)
       have kb:=(key b).1 (by simp)
       have kc:=(key c).1 (by simp)
       have h1:a<b:=(List.pairwise_cons.1 hs).1 b (by simp)
       have h2:b<c:=(List.pairwise_cons.1 (List.pairwise_cons.1 hs).2).1 c (by simp)
       omega
    rw [hl2]
    decide
  · exfalso
    have:l=[]:=List.eq_nil_iff_forall_not_mem.2 fun v hv=>by
     obtain ⟨c,hc⟩:=path_src ((hc.2 v).1 hv)
     obtain ⟨h1,h2,h3⟩:=Vp.1 hc
     rcases (hE _).1 h1 with h | h | h <;> cases h <;> simp at h2 h3
    rw [this] at hl
    cases hl
theorem run_arr{cs:List CmdV}{ds:List Pl.Cm}(hcs:cs.map CmdV.cm=([⟨1,0,3,3,[]⟩,⟨2,3,0,0,[120]⟩,⟨1,4,0,3,[]⟩]:List Pl.Cm))(ha:Pl.Arr ([97,98,99,100,101,102]:List UInt8) cs ds):ds=([⟨1,4,0,3,[]⟩,⟨2,0,0,0,[100,101,102]⟩,⟨2,3,0,0,[120]⟩]:List Pl.Cm):=by
 obtain ⟨E,evd,ord,ls,rfl,hp,hs,hE,hev,hkn,-,-⟩:=ha
 rcases cs with _ | ⟨c0,_ | ⟨c1,_ | ⟨c2,_ | ⟨c3,r⟩⟩⟩⟩
 · cases hcs
 · simp at hcs
 · simp at hcs
 · simp only [Ka,List.map_nil,List.cons.injEq,and_true] at hcs
   obtain ⟨e0,e1,e2⟩:=hcs
   have k0:c0.k=1:=LM Pl.Cm.k e0
   have k1:c1.k=2:=LM Pl.Cm.k e1
   have k2:c2.k=1:=LM Pl.Cm.k e2
   have l0:c0.ln=3:=LM Pl.Cm.ln e0
   have l1:c1.ln=0:=LM Pl.Cm.ln e1
   have l2:c2.ln=3:=LM Pl.Cm.ln e2
   have hl:Pl.Xa [c0,c1,c2] [c0,c1,c2].length=[1]:=by
    show ([(0:Int),1,2].filter fun i=>decide (([c0,c1,c2][i.toNat]?).map CmdV.k=some 2))=[1]
    simp [k0,k1,k2]
   have hcf:∀ a b:CmdV,Pl.cf a b=(decide (a.cm.k=1)&&(Pl.overlap b.cm.to (Pl.clen b.cm) a.cm.fr a.cm.ln).isSome):=fun _ _=>rfl
   have hE2:RunE E:=fun e=>by
    rw [hE]
    constructor
    · rintro ⟨i,j,a,b,rfl,hi,hne,h1,h2,h3⟩
      have hj:j<3:=(Le.1 h2).1
      have hi:i<3:=hi
      rw [hcf] at h3
      rcases (show i=0∨i=1∨i=2 by omega) with rfl | rfl | rfl <;> rcases (show j=0∨j=1∨j=2 by omega) with rfl | rfl | rfl <;> cases h1 <;> cases h2 <;> first | (exact absurd rfl hne) | (simp; done) | (exfalso; revert h3; rw [e0,e1]; decide) | (exfalso; revert h3; rw [e1,e0]; decide) | (exfalso; revert h3; rw [e1,e2]; decide) | (exfalso; revert h3; rw [e2,e1]; decide)
    · rintro (rfl | rfl | rfl)
      · exact ⟨0,1,c0,c1,rfl,by simp,by decide,rfl,rfl,by rw [hcf,e0,e1]; decide⟩
      · exact ⟨0,2,c0,c2,rfl,by simp,by decide,rfl,rfl,by rw [hcf,e0,e2]; decide⟩
      · exact ⟨2,0,c2,c0,rfl,by simp,by decide,rfl,rfl,by rw [hcf,e2,e0]; decide⟩
   rw [hl] at hev hkn
   rw [show [c0,c1,c2].map CmdV.ln=[3,0,3] by simp [l0,l1,l2]] at hev
   rcases run_evs hE2 hev with rfl | rfl
   · exfalso
     have h02:((0:Int),(2:Int))∈Pl.wo E ([1]++[]):=Vp.2 ⟨(hE2 _).2 (by simp),by simp,by simp⟩
     have h20:((2:Int),(0:Int))∈Pl.wo E ([1]++[]):=Vp.2 ⟨(hE2 _).2 (by simp),by simp,by simp⟩
     have:=hkn.cyc (fun e he=>by rcases (hE2 e).1 he with rfl | rfl | rfl <;> simp) (.more (.one h02) h20)
     cases this
   · have hm:∀ v,v∈ord↔v=2:=fun v=>by
      have:=hkn.part v
      rw [show Pl.nsk ([1]++[0]) [c0,c1,c2].length=[2] from rfl] at this
      simpa using this.symm
     have ho:ord=[2]:=by
      have hnd:=hkn.nd
      have h2:=(hm 2).2 rfl
      rcases ord with _ | ⟨a,_ | ⟨b,r⟩⟩
      · cases h2
      · rw [(hm a).1 (by simp)]
      · have ha:=(hm a).1 (by simp)
        have hb:=(hm b).1 (by simp)
        rw [ha,hb] at hnd
        simp at hnd
     have e9:[c0,c1,c2].map CmdV.cm=([⟨1,0,3,3,[]⟩,⟨2,3,0,0,[120]⟩,⟨1,4,0,3,[]⟩]:List Pl.Cm):=by simp [e0,e1,e2]
     rw [e9] at hp ⊢
     have hf:((Pl.Vj ([97,98,99,100,101,102]:List UInt8) [0] ([⟨1,0,3,3,[]⟩,⟨2,3,0,0,[120]⟩,⟨1,4,0,3,[]⟩]:List Pl.Cm) [c0,c1,c2].length).filter fun c=>decide (c.k=2))=([⟨2,0,0,0,[100,101,102]⟩,⟨2,3,0,0,[120]⟩]:List Pl.Cm):=by kernel_rfl
     rw [hf] at hp
     have hls:=List.Perm.eq_of_pairwise (le:=fun a b:Pl.Cm=>a.to≤b.to) (fun a b h1 h2 h3 h4=>by
      have g1:=hp.mem_iff.1 h1
      simp only [LR,Kd,or_false] at g1 h2
      rcases g1 with rfl | rfl <;> rcases h2 with rfl | rfl <;> first | rfl | (exfalso; revert h3 h4; decide)) hs (by simp) hp
     rw [hls,ho]
     rfl
 · simp at hcs
theorem sid_arm{f N:Nat}{b oo nn:Int}{nw:List UInt8}{cs:List Pl.Cm}{A:Pl.Ap}(h:Pl.SidP f N b oo nn nw cs A)(w p:Int):Pl.SidP f N b oo nn nw cs ⟨arm A.D w p,A.S,A.st,A.nx,A.sg⟩:=⟨h.dn,h.sl,h.h2,h.hS,h.cl,h.nx,h.fo,h.fn,h.la,h.sg,h.hh⟩
section
variable {sz f N:Nat}{b k oo nn:Int}{fl:List UInt8}{cs:List Pl.Cm}{bud:Int}{i:Nat}{A:Pl.Ap}
theorem step_arm(hc:CtOk sz f N b k oo nn fl cs)(h:Good sz f N b oo nn fl cs bud i A)(hi:i<(Pl.Qd b cs).length)(hst:A.st≠2)(hsg:A.sg=false)(w p:Int):Pl.Ap.step f N b k cs ⟨arm A.D w p,A.S,A.st,A.nx,A.sg⟩=Pl.Ap.exec f N b k cs ⟨arm A.D w p,A.S,A.st,A.nx,A.sg⟩:=by
 have hL:=hc.len
 have hx:=h.nx
 unfold Pl.Ap.step
 rw [LH hst,LH (by simp only; rw [hsg]; decide),LH (by simp only; rw [hx,hL]; omega)]
theorem arm_next(hc:CtOk sz f N b k oo nn fl cs)(hk:0≤k∧k≤18446744073709551615)(h:Good sz f N b oo nn fl cs bud i A)(hi:i<(Pl.Qd b cs).length)(hb:2*((f+2*N:Nat):Int)≤bud)(hst:A.st≠2)(hsg:A.sg=false)(w p:Int)(hw:2≤w)
 (h1:Pl.sN sz (Pl.jat A.D f N (Pl.Jo A.S)) (Pl.renc (Vs k b nn fl cs A.S i)).length=1) (h2:Pl.sN sz (Pl.JB b cs i).to.toNat (Pl.wrt (Fi nn b fl cs i) (Pl.JB b cs i)).length=1) :
 ∃ A1:Pl.Ap,Good sz f N b oo nn fl cs (bud-2*((f+2*N:Nat):Int)) (i+1) A1∧A1.st=1∧A1.sg=false∧A1.S=⟨IntKind.u64.wrap (A.S.nx+1),true,Vs k b nn fl cs A.S i⟩∧Pl.QX A1.D f N (Pl.Jo A.S) (some (Vs k b nn fl cs A.S i)) ∧
  ∀ n B c,Pl.RunTo (Pl.Ap.step f N b k cs) (Pl.SidP f N b oo nn (Pl.apl fl cs nn.toNat) cs) n ⟨arm A1.D (w-2) p,A1.S,A1.st,A1.nx,A1.sg⟩ c B→Pl.RunTo (Pl.Ap.step f N b k cs) (Pl.SidP f N b oo nn (Pl.apl fl cs nn.toNat) cs) (n+1) ⟨arm A.D w p,A.S,A.st,A.nx,A.sg⟩ c B:=by
 obtain ⟨g1,g2,g3,g4⟩:=good_exec (k:=k) hc h hi hb
 obtain ⟨s1,s2,s3,s4⟩:=exec_slot hc hk h hi hb
 have e:=(step_arm hc h hi hst hsg w p).trans (s4 w p hw h1 h2)
 have hs:=YP hc h (by omega) (fun h9=>by rw [hsg] at h9; cases h9)
 refine ⟨_,g2,g3,g4,s1,s2,fun n B c hr=>?_⟩
 rw [g3,g4,g2.nx] at hr
 refine .next (sid_arm hs w p) (by rw [e]) (by rw [e]; show (1:Int)≠2; decide) ?_
 rw [e,h.nx]
 exact hr
end
theorem u64s(x:Int)(h:0≤x∧x<18446744073709551616):IntKind.u64.wrap x=x:=by
 have e:IntKind.u64.wrap x=x%18446744073709551616:=by simp [IntKind.wrap,IntKind.signed,IntKind.bits]
 rw [e]
 omega
theorem run_law{cs:List CmdV}{ds:List Pl.Cm}(hcs:cs.map CmdV.cm=([⟨1,0,3,3,[]⟩,⟨2,3,0,0,[120]⟩,⟨1,4,0,3,[]⟩]:List Pl.Cm))(ha:Pl.Arr ([97,98,99,100,101,102]:List UInt8) cs ds):Pl.RwTo 64 2 6 7 ([97,98,99,100,101,102]:List UInt8) [(4,1)] 2 ds:=by
 have hv:Pl.VD 6 7 (cs.map CmdV.cm):=by rw [hcs]; exact run_vd
 have hvd:=(arr_vd (o:=6) (f:=([97,98,99,100,101,102]:List UInt8)) rfl hv ha).1
 have hsf:=arr_safe hv ha
 obtain rfl:=run_arr hcs ha
 have hN:=nw_of (b:=2) (fl:=([97,98,99,100,101,102]:List UInt8)) (oo:=6) (nn:=7) rfl (by decide) (by decide) (by decide) hvd hsf (by decide)
 have hH:=fenc_le (oo:=6) (nn:=7) (H:=Pl.hh (Pl.sha ([97,98,99,100,101,102]:List UInt8)) (Pl.sha (Pl.apl ([97,98,99,100,101,102]:List UInt8) ([⟨1,4,0,3,[]⟩,⟨2,0,0,0,[100,101,102]⟩,⟨2,3,0,0,[120]⟩]:List Pl.Cm) (7:Int).toNat))) hN.few (by decide)
 obtain ⟨kid,hk⟩:∃ kid,Pl.fid (Pl.fenc 6 7 (Pl.hh (Pl.sha ([97,98,99,100,101,102]:List UInt8)) (Pl.sha (Pl.apl ([97,98,99,100,101,102]:List UInt8) ([⟨1,4,0,3,[]⟩,⟨2,0,0,0,[100,101,102]⟩,⟨2,3,0,0,[120]⟩]:List Pl.Cm) (7:Int).toNat))) ([⟨1,4,0,3,[]⟩,⟨2,0,0,0,[100,101,102]⟩,⟨2,3,0,0,[120]⟩]:List Pl.Cm))=kid:=⟨_,rfl⟩
 have hkb:0≤kid∧kid≤18446744073709551615:=by rw [← hk]; exact Pl.ruint_bnd _ _ _
 have l1:Pl.X7 ((64:Nat):Int) 2 6 7=0:=by decide
 have l2:Pl.layF ((64:Nat):Int) 6 7=((1:Nat):Int):=by decide
 have l3:Pl.slot ((64:Nat):Int) 2=((1:Nat):Int):=by decide
 have hc:CtOk 64 1 1 2 kid 6 7 ([97,98,99,100,101,102]:List UInt8) ([⟨1,4,0,3,[]⟩,⟨2,0,0,0,[100,101,102]⟩,⟨2,3,0,0,[120]⟩]:List Pl.Cm):=⟨hN,by decide,by decide,by decide,l3,by decide⟩
 have hno:=fun (n p:Int) hn hp=>new_none (sz:=64) (f:=1) (N:=1) (fl:=([97,98,99,100,101,102]:List UInt8)) (n:=n) (p:=p) (by decide) (by decide) (by decide) (by decide) kid hn hp
 have hL:(Pl.Qd 2 ([⟨1,4,0,3,[]⟩,⟨2,0,0,0,[100,101,102]⟩,⟨2,3,0,0,[120]⟩]:List Pl.Cm)).length=5:=by kernel_rfl
 have hLi:=hc.len
 rw [hL] at hLi
 obtain ⟨A,hA⟩:∃ A:Pl.Ap,A=⟨Pl.nDv 64 3 ([97,98,99,100,101,102]:List UInt8),⟨1,false,Pl.rc0⟩,0,0,false⟩:=⟨_,rfl⟩
 have hok:Pl.okDv (Pl.nDv 64 3 ([97,98,99,100,101,102]:List UInt8)):=Pl.ok_new (by decide) (by decide) (by decide) (by decide)
 have hg:Good 64 1 1 2 6 7 ([97,98,99,100,101,102]:List UInt8) ([⟨1,4,0,3,[]⟩,⟨2,0,0,0,[100,101,102]⟩,⟨2,3,0,0,[120]⟩]:List Pl.Cm) 1000000 0 A:=by
  rw [hA]
  exact ⟨⟨hok,rfl,by show (-1:Int)<0; decide,rfl,rfl,rfl,by show (0:Int)≤0∧(0:Int)+1000000≤4611686018427387903; decide⟩,by kernel_rfl,rfl,⟨by decide,by decide⟩,LL _⟩
 have rl:∀ S i,(Pl.renc (Vs kid 2 7 ([97,98,99,100,101,102]:List UInt8) ([⟨1,4,0,3,[]⟩,⟨2,0,0,0,[100,101,102]⟩,⟨2,3,0,0,[120]⟩]:List Pl.Cm) S i)).length=44+(Pl.wrt (Fi 7 2 ([97,98,99,100,101,102]:List UInt8) ([⟨1,4,0,3,[]⟩,⟨2,0,0,0,[100,101,102]⟩,⟨2,3,0,0,[120]⟩]:List Pl.Cm) i) (Pl.JB 2 ([⟨1,4,0,3,[]⟩,⟨2,0,0,0,[100,101,102]⟩,⟨2,3,0,0,[120]⟩]:List Pl.Cm) i)).length:=fun S i=>Pl.VC _
 have w0:(Pl.wrt (Fi 7 2 ([97,98,99,100,101,102]:List UInt8) ([⟨1,4,0,3,[]⟩,⟨2,0,0,0,[100,101,102]⟩,⟨2,3,0,0,[120]⟩]:List Pl.Cm) 0) (Pl.JB 2 ([⟨1,4,0,3,[]⟩,⟨2,0,0,0,[100,101,102]⟩,⟨2,3,0,0,[120]⟩]:List Pl.Cm) 0)).length=2:=by kernel_rfl
 have w1:(Pl.wrt (Fi 7 2 ([97,98,99,100,101,102]:List UInt8) ([⟨1,4,0,3,[]⟩,⟨2,0,0,0,[100,101,102]⟩,⟨2,3,0,0,[120]⟩]:List Pl.Cm) 1) (Pl.JB 2 ([⟨1,4,0,3,[]⟩,⟨2,0,0,0,[100,101,102]⟩,⟨2,3,0,0,[120]⟩]:List Pl.Cm) 1)).length=1:=by kernel_rfl
 have w2:(Pl.wrt (Fi 7 2 ([97,98,99,100,101,102]:List UInt8) ([⟨1,4,0,3,[]⟩,⟨2,0,0,0,[100,101,102]⟩,⟨2,3,0,0,[120]⟩]:List Pl.Cm) 2) (Pl.JB 2 ([⟨1,4,0,3,[]⟩,⟨2,0,0,0,[100,101,102]⟩,⟨2,3,0,0,[120]⟩]:List Pl.Cm) 2)).length=2:=by kernel_rfl
 have t0:(Pl.JB 2 ([⟨1,4,0,3,[]⟩,⟨2,0,0,0,[100,101,102]⟩,⟨2,3,0,0,[120]⟩]:List Pl.Cm) 0).to.toNat=4:=by kernel_rfl
 have t1:(Pl.JB 2 ([⟨1,4,0,3,[]⟩,⟨2,0,0,0,[100,101,102]⟩,⟨2,3,0,0,[120]⟩]:List Pl.Cm) 1).to.toNat=6:=by kernel_rfl
 have hrb:∀ {S:Pl.Jn},(Vs kid 2 7 ([97,98,99,100,101,102]:List UInt8) ([⟨1,4,0,3,[]⟩,⟨2,0,0,0,[100,101,102]⟩,⟨2,3,0,0,[120]⟩]:List Pl.Cm) S 2).bs.length=2:=fun {S}=>w2
 have c2:(2:Int)=Pl.clen (Pl.JB 2 ([⟨1,4,0,3,[]⟩,⟨2,0,0,0,[100,101,102]⟩,⟨2,3,0,0,[120]⟩]:List Pl.Cm) 2):=by kernel_rfl
 have hjat:∀ {D:Pl.Dv} {s:Nat},D.sz=64→Pl.jat D 1 1 s=(1+s*1)*64:=fun h=>by unfold Pl.jat; rw [h]
 have sA:A.S.nx=1:=by rw [hA]
 obtain ⟨A1,g1,a1,b1,S1,-,n1⟩:=arm_next hc hkb hg (by omega) (by decide) (by rw [hA]; decide) (by rw [hA]) 4 1 (by decide) (by rw [rl,w0,hjat hg.di.hsz,show Pl.Jo A.S=1 by unfold Pl.Jo; rw [sA]; rfl]; rfl) (by rw [w0,t0]; rfl)
 have s1:A1.S.nx=2:=by rw [S1]; simp only; rw [sA,u64s _ (by decide)]; rfl
 have j1:Pl.Jo A1.S=0:=by unfold Pl.Jo; rw [s1]; rfl
 obtain ⟨A2,g2,a2,b2,S2,hsl2,n2⟩:=arm_next hc hkb g1 (by omega) (by decide) (by omega) b1 2 1 (by decide) (by rw [rl,w1,hjat g1.di.hsz,j1]; rfl) (by rw [w1,t1]; rfl)
 have s2:A2.S.nx=3:=by rw [S2]; simp only; rw [s1,u64s _ (by decide)]; rfl
 have j2:Pl.Jo A2.S=1:=by unfold Pl.Jo; rw [s2]; rfl
 obtain ⟨E,e1,e2,e3,e4,e5,e6,e7⟩:=exec_crash hc hkb g2 (by omega) (by decide) (by decide) (by rw [rl,w2,hjat g2.di.hsz,j2]; rfl) (by rw [rl,w2,hjat g2.di.hsz,j2]; decide)
 have f1:=Pl.RunTo.stop (st:=Pl.Ap.step 1 1 2 kid ([⟨1,4,0,3,[]⟩,⟨2,0,0,0,[100,101,102]⟩,⟨2,3,0,0,[120]⟩]:List Pl.Cm)) (sid_arm (YP hc g2 (by omega) (fun h9=>by rw [b2] at h9; cases h9)) 0 1) (.inl (by rw [step_arm hc g2 (by omega) (by omega) b2,e1]; show (18:Int)≠0; decide))
 rw [step_arm hc g2 (by omega) (by omega) b2,e1] at f1
 have f0:=n1 _ _ _ (n2 _ _ _ f1)
 rw [hA] at f0
 obtain ⟨r1,r2,r3⟩:=recI_ok hc hkb g2 (by omega)
 obtain ⟨q1,q2⟩:=japp_slot (S:=A2.S) g2.di hc.hj r2 r1 r3 (by decide)
 rw [j2] at q1 q2
 rw [j1] at hsl2
 have q0:=q2 0 _ (by decide) (by decide) hsl2
 have hjd:=japp_up (S:=A2.S) g2.di (LP _) hc.hj r2 r3 (by decide)
 have hdk:(Pl.aDv (Pl.sDv E) (-1) 0).dk=(Pl.japp A2.D 1 1 2 A2.S (Vs kid 2 7 ([97,98,99,100,101,102]:List UInt8) ([⟨1,4,0,3,[]⟩,⟨2,0,0,0,[100,101,102]⟩,⟨2,3,0,0,[120]⟩]:List Pl.Cm) A2.S 2)).2.1.dk:=by rw [← e7]; exact Pl.Xl _ _ _ _
 have hsz:(Pl.aDv (Pl.sDv E) (-1) 0).sz=(Pl.japp A2.D 1 1 2 A2.S (Vs kid 2 7 ([97,98,99,100,101,102]:List UInt8) ([⟨1,4,0,3,[]⟩,⟨2,0,0,0,[100,101,102]⟩,⟨2,3,0,0,[120]⟩]:List Pl.Cm) A2.S 2)).2.1.sz:=by rw [hjd.2.2.1.hsz]; exact e4
 have hok2:Pl.okDv (Pl.aDv (Pl.sDv E) (-1) 0):=Pl.ok_arm (Pl.ok_restart e3) (by unfold Pl.I64; omega) (by omega)
 have hc3:(Pl.aDv (Pl.sDv E) (-1) 0).cnt=3:=e5
 have hz0:=Pl.jrec_slot hok2 rfl rfl (LP 1) (by rw [hc3]; decide) (by decide) (q0.eq hdk hsz)
 have hz1:=Pl.jrec_slot hok2 rfl rfl (LP 1) (by rw [hc3]; decide) (by decide) (q1.eq hdk hsz)
 have hop:=Pl.open_two (k:=kid) hz0 hz1 rfl rfl (by show A1.S.nx<A2.S.nx; omega)
 obtain ⟨S3,hS3⟩:∃ S3:Pl.Jn,S3=Pl.jopen (Pl.aDv (Pl.sDv E) (-1) 0) 1 1 kid:=⟨_,rfl⟩
 rw [← hS3] at hop
 have hla:Pl.jla S3=Vs kid 2 7 ([97,98,99,100,101,102]:List UInt8) ([⟨1,4,0,3,[]⟩,⟨2,0,0,0,[100,101,102]⟩,⟨2,3,0,0,[120]⟩]:List Pl.Cm) A2.S 2:=by rw [hop]; rfl
 have hcu:(Pl.jla S3).cu=2:=by rw [hla]; rfl
 have hnA:Pl.VL (Pl.aDv (Pl.sDv E) (-1) 0) S3 (Pl.JF 2 ([⟨1,4,0,3,[]⟩,⟨2,0,0,0,[100,101,102]⟩,⟨2,3,0,0,[120]⟩]:List Pl.Cm))=⟨Pl.aDv (Pl.sDv E) (-1) 0,S3,1,2,true⟩:=by
  unfold Pl.VL
  rw [LH (by rw [hop]; intro h; cases h),hcu,hLi,LH (by decide)]
 have hsW:=g2.di.sW
 have g3:Good 64 1 1 2 6 7 ([97,98,99,100,101,102]:List UInt8) ([⟨1,4,0,3,[]⟩,⟨2,0,0,0,[100,101,102]⟩,⟨2,3,0,0,[120]⟩]:List Pl.Cm) 900000 2 ⟨Pl.aDv (Pl.sDv E) (-1) 0,S3,1,2,true⟩:=by
  refine ⟨⟨hok2,rfl,by show max (-1:Int) (-1)<0; decide,rfl,e4,e5,?_⟩,?_,rfl,?_,?_⟩
  · show 0≤E.sW∧E.sW+900000≤4611686018427387903
    rw [e6]
    omega
  · simp only
    rw [hdk]
    refine (tk_same fun j hj=>hjd.2.2.2 j (Nat.lt_of_lt_of_le hj (by decide))).trans g2.fi
  · simp only
    rw [hop]
    exact u64w _
  · simp only
    rw [hop]
    show (Vs kid 2 7 ([97,98,99,100,101,102]:List UInt8) ([⟨1,4,0,3,[]⟩,⟨2,0,0,0,[100,101,102]⟩,⟨2,3,0,0,[120]⟩]:List Pl.Cm) A2.S 2).bs.length≤1000000
    rw [hrb]
    decide
 obtain ⟨n,B,h1,h2,h3⟩:=run_staged hc (m:=2) (by rw [hL]) g3 (by show (1:Int)≠2; decide) rfl (by simp only; rw [hla]; rfl) (by simp only; rw [hla]; rfl) (by decide)
 have hbm:max (4:Int) (-1)=4:=by decide
 refine ⟨1,1,kid,Pl.sDv B.D,hk,hkb,hH,hN,l1,l2,l3,by decide,by decide,.more (E:=Pl.sDv E) ?_ (.last ?_ (by decide)),?_,?_⟩
 · refine ⟨rfl,l1,l2,l3,by decide,?_,fun h=>?_,fun _=>by kernel_rfl,⟨0+1+1,⟨E,A2.S,A2.st,A2.nx,A2.sg⟩,?_,rfl,by show E.ca.length≤_; rw [e2]; exact LL _⟩⟩
   · rw [hno 4 1 (by unfold Pl.I64; omega) (by omega)]; exact LL _
   · rw [hno 4 1 (by unfold Pl.I64; omega) (by omega)] at h; cases h
   · rw [hno 4 1 (by unfold Pl.I64; omega) (by omega)]
     exact f0
 · have hz6:(Pl.aDv (Pl.sDv E) (-1) 0).sz=64:=e4
   refine ⟨rfl,by rw [hz6]; exact l1,by rw [hz6]; exact l2,by rw [hz6]; exact l3,by rw [hc3]; decide,?_,fun _=>?_,fun h=>?_,⟨n,B,?_,rfl,by rw [h2.ca]; exact LL _⟩⟩
   · rw [← hS3,hop]
     show (Vs kid 2 7 ([97,98,99,100,101,102]:List UInt8) ([⟨1,4,0,3,[]⟩,⟨2,0,0,0,[100,101,102]⟩,⟨2,3,0,0,[120]⟩]:List Pl.Cm) A2.S 2).bs.length≤1000000
     rw [hrb]
     decide
   · rw [← hS3,hla]
     refine ⟨⟨by show (0:Int)≤2; decide,by rw [hLi]; show (2:Int)<5; decide⟩,rfl,?_⟩
     show ((Vs kid 2 7 ([97,98,99,100,101,102]:List UInt8) ([⟨1,4,0,3,[]⟩,⟨2,0,0,0,[100,101,102]⟩,⟨2,3,0,0,[120]⟩]:List Pl.Cm) A2.S 2).bs.length:Int)=Pl.clen (Pl.JB 2 ([⟨1,4,0,3,[]⟩,⟨2,0,0,0,[100,101,102]⟩,⟨2,3,0,0,[120]⟩]:List Pl.Cm) 2)
     rw [hrb,← c2]
     rfl
   · rw [← hS3,hnA] at h
     cases h
   · rw [← hS3,hnA]
     exact h1
 · show (Pl.pers _ _ _ _ _).take _=_
   rw [Pl.Xl,← Fi_end hc,← h3,List.take_take]
   rfl
 · show _≤(Pl.pers _ _ _ _ _).length
   rw [Pl.Xl,h2.ok.len,h2.hcnt,h2.hsz]
   decide
theorem rbF{b:Bool}(h:¬ (bif b then (0:Int) else 1)=0):b=false:=by
 cases b
 · rfl
 · exact absurd rfl h
theorem rbv{f:List UInt8}{oo nn sz bd mo:Int}{cs:List CmdV}(h:(decide ((f.length:Int)>300)||!(bif (decide ((cs.length:Int)>20)||decide (oo>300)||decide (nn>300)||!(cs.all (fun c=>decide (c.d.bs.length≤300))&&decide (cs.length≤40))||!Pl.vdB oo nn (cs.map CmdV.cm)||decide (bd>300)) then false else (Pl.valid 0 nn&&(decide (bd<1)||few18 bd cs)))||!((cs.all (fun c=>decide (c.d.bs.length≤300))&&decide (cs.length≤40))&&Pl.vdB oo nn (cs.map CmdV.cm)&&decide (oo=f.length)&&decide (nn≤3000))||decide (bd<1)||decide (sz<1)||decide (sz>1000)||decide (mo<0)||decide (mo>100))=false):Pl.VD oo nn (cs.map CmdV.cm)∧cs.length≤20:=by
 rw [LS,LS,LS,LS,LS,LS,LS] at h
 obtain ⟨⟨⟨⟨⟨⟨⟨a1,a2⟩,a3⟩,a4⟩,a5⟩,a6⟩,a7⟩,a8⟩:=h
 rw [Bool.not_eq_false'] at a2 a3
 simp only [bA,dT] at a3
 exact ⟨Pl.vdB_iff.1 a3.1.1.2,(smb a2).1⟩
theorem u8c{x m:Int}(hx:0≤x∧x≤255)(hm:1≤m∧m≤255):0≤x.tmod m∧x.tmod m<m:=⟨Int.tmod_nonneg m hx.1,Int.tmod_lt_of_pos x (by omega)⟩
theorem law_shapes(oo nn:Int)(H:Nat→UInt8)(q:Option Addr)(cq:Nat)(cs:List CmdV)(r:Option Addr)(cr:Nat)(f:List UInt8)(sz bd mo:Int)(w0:World)(h1:Pl.I64 oo)(h2:Pl.I64 nn)(hs:Pl.I64 sz)(hb:Pl.I64 bd)(hq:Rd w0 q (cs.flatMap JM))(hok:∀ c∈cs,okC w0 c)(hf:Rd w0 r (f.flatMap Jk))(hfl:f.length≤cr)(hfs:cr≠0→∀ ad,r=some ad→ad.spot=none)(u1 u2:Int)(hu1:0≤u1∧u1≤255)(hu2:0≤u2∧u2≤255)(hgz:Gz w0):C Tryz.prog 4 [.agg ⟨caV r f.length cr oo nn H q cs.length cq sz bd mo⟩,.int .u8 u1,.int .u8 u2] w0 fun v w'=>v=.bool true∧Ext No w0 w':=by
 refine C_o Tryz.func4 fun κ _ Je Jc hm=>?_
 refine au 2 ?_
 refine bT hm fun m1 w hm=>?_
 refine au 6 ?_
 refine Ja rfl rfl (Jm (s:=71) (vs:=caV r f.length cr oo nn H _ cs.length cq sz bd mo) rfl ag28.h (hm.nt 0 rfl) rfl) ?_
 refine cA rfl rfl rfl (l24_right oo nn H q cq cs r cr f sz bd mo _ h1 h2 hs hb (hq.Jj hm.to) (fun c hc=>okC.mono (hok c hc) hm.to)) hm fun w hm=>?_
 refine au 3 ?_
 refine cd (fun hc0=>?_) fun hc0=>?_
 ·
  refine au 2 ?_
  refine cA rfl rfl rfl (g_runs _ (hgz.to hm.to) fun _ h9 _ h8=>run_law h9 h8) hm fun w hm=>?_
  refine au 6 ?_
  exact ⟨rfl,hm.to⟩
 ·
  simp only [dF] at hc0
  have hrx:=rbf (rbF hc0)
  have hry:=rbv (rbF hc0)
  have hv:=hry.1
  have hlens:=hv.lens
  have hm1:=u8c (m:=100) hu1 (by decide)
  have hm2:=u8c (m:=60) hu2 (by decide)
  obtain ⟨sn,hsn⟩:∃ x:Nat,sz=x:=⟨sz.toNat,by omega⟩
  obtain ⟨un,hun⟩:∃ x:Nat,u1.tmod 100+1=x:=⟨(u1.tmod 100+1).toNat,by omega⟩
  subst hsn
  clear hc0
  refine au 7 ?_
  refine Ja rfl rfl (Jm (s:=67) (vs:=dlV oo nn H _ cs.length cq) rfl ag26.h (hm.nt 0 rfl) rfl) ?_
  refine cT rfl rfl rfl (r8_apply oo nn H q cq cs r cr f _ (hq.Jj hm.to) (by omega) (fun c hc=>okC.mono (hok c hc) hm.to) (hf.Jj hm.to) hrx.1 hv (by omega)) fun v w hR=>?_
  obtain ⟨p_u,n_u,cap_u,g_u,b_u,rfl,ha_u,hmc⟩:=hR
  replace hm:=hm.Jt hmc
  obtain rfl:=ha_u.J0
  refine au 11 ?_
  refine cT rfl rfl rfl (p_describe r cr f p_u cap_u (Pl.apl f (cs.map CmdV.cm) nn.toNat) q cq cs _ (hf.Jj hm.to) (by omega) (ha_u.rd hm 0 rfl) (by rw [Yq]; omega) (hq.Jj hm.to) (fun c hc=>okC_n ((fun c hc=>okC.mono (hok c hc) hm.to) c hc)) (by omega) (V5 hv (by omega))) fun v w hR=>?_
  obtain ⟨xs_s,p_s,n_s,cap_s,g_s,b_s,B_s,rfl,ha_s,hx_s,hh_s,hmc⟩:=hR
  replace hm:=hm.VZ hmc
  obtain rfl:=ha_s.QB Jf (by decide)
  refine aT hm fun m8 w hm=>?_
  refine st hm 0 fun w hm=>?_
  replace hm:=Xu hm rfl
  have hnl:(((Pl.apl f (cs.map CmdV.cm) nn.toNat).length:Nat):Int)=nn:=by rw [Yq]; omega
  rw [hnl,← hrx.1] at hm
  have hvx:Pl.VD oo nn (xs_s.map CmdV.cm):=by rw [hx_s]; exact hv
  have hxl:xs_s.length=cs.length:=by have:=LM List.length hx_s; rw [Lj,Lj] at this; exact this
  refine au 6 ?_
  refine Ja rfl rfl (Jm (s:=67) (vs:=dlV oo nn (Pl.hh (Pl.sha f) (Pl.sha (Pl.apl f (cs.map CmdV.cm) nn.toNat))) _ _ _) rfl ag26.h (hm.nt 0 rfl) rfl) ?_
  refine au 4 ?_
  have hcon:=c_rewrite r cr f p_s cap_s xs_s oo nn (Pl.hh (Pl.sha f) (Pl.sha (Pl.apl f (cs.map CmdV.cm) nn.toNat))) sn bd none 0 [] 1 _ (by rw [hx_s]) (hf.Jj hm.to) ⟨hfl,by omega⟩ hfs (ha_s.rd hm 1 rfl) (by omega) (fun c hc=>Ya hm (hh_s c hc) (fun e he=>Ly [_,_,_,_] he) (hvx.one c.cm (Ln.2 ⟨c,hc,rfl⟩))) (V5 hvx (by omega)) hvx hrx.1 (by omega) (by omega) (by omega) rfl (by simp) (by simp) (fun ds ha=>rw_law hrx.1 hrx.2.1 hrx.2.2.1 (by omega) hvx (by omega) (by omega) ha)
  refine cT rfl rfl rfl hcon fun v w hR=>?_
  rw [hx_s] at hR
  obtain ⟨p_a,cap_a,g_a,b_a,pa_a,ca_a,pk_a,rfl,hpk_a,ha_a,hmc⟩:=hR
  replace hm:=hm.Jt hmc
  refine au 4 ?_
  refine aT hm fun ma w hm=>?_
  refine aT hm fun mb w hm=>?_
  refine au 1 ?_
  refine st hm 1 fun w hm=>?_
  refine st hm 0 fun w hm=>?_
  refine Qc ?_
  refine QV ?_
  refine Qb rfl ?_
  refine JT (.pure 0 (.pure 1 (.pure 2 (.pure 3 (.pure 4 (.pure 5 (.pure 6 (.pure 7 (.pure 8 (.pure 9 (.pure 10 (.act 11 (.pure 12 (.pure 13 (.pure 14 (.pure 15 (.act 16 (.act 17 (.pure 18 (.act 19 (.act 20 .done))))))))))))))))))))) (by kernel_rfl) ?_
  refine Ja rfl rfl (Jv rfl fo28_0.h) ?_
  refine Ja rfl rfl (Jh rfl sc22.h (hm.nt 6 rfl) rfl) ?_
  refine Ja rfl rfl (Jm (s:=67) (vs:=dlV oo nn (Pl.hh (Pl.sha f) (Pl.sha (Pl.apl f (cs.map CmdV.cm) nn.toNat))) _ _ _) rfl ag26.h (hm.nt 3 rfl) rfl) ?_
  refine au 1 ?_
  refine Ja rfl rfl (JX rfl is5 it3 (Ql (by omega) (by omega))) ?_
  refine Ja rfl rfl (y_rem rfl rfl (by omega) rfl) ?_
  refine Ja rfl rfl (J5 rfl rfl ((Ql (by omega) (by omega)).trans hun)) ?_
  refine au 1 ?_
  refine Ja rfl rfl (JX rfl is5 it3 (Ql (by omega) (by omega))) ?_
  refine Ja rfl rfl (y_rem rfl rfl (by omega) rfl) ?_
  refine au 1 ?_
  have hcon:=c_rewrite r cr f p_s cap_s xs_s oo nn (Pl.hh (Pl.sha f) (Pl.sha (Pl.apl f (cs.map CmdV.cm) nn.toNat))) un (u2.tmod 60+1) none 0 [] 1 _ (by rw [hx_s]) (hf.Jj hm.to) ⟨hfl,by omega⟩ hfs (ha_s.rd hm 4 rfl) (by omega) (fun c hc=>Ya hm (hh_s c hc) (fun e he=>Ly [_,_,_,_,_,_,_] he) (hvx.one c.cm (Ln.2 ⟨c,hc,rfl⟩))) (V5 hvx (by omega)) hvx hrx.1 (by omega) (by omega) (by omega) rfl (by simp) (by simp) (fun ds ha=>rw_law hrx.1 hrx.2.1 hrx.2.2.1 (by omega) hvx (by omega) (by omega) ha)
  refine cT rfl rfl rfl hcon fun v w hR=>?_
  rw [hx_s] at hR
  obtain ⟨p_b,cap_b,g_b,b_b,pa_b,ca_b,pk_b,rfl,hpk_b,ha_b,hmc⟩:=hR
  replace hm:=hm.Jt hmc
  refine au 4 ?_
  refine aT hm fun mc w hm=>?_
  refine aT hm fun md w hm=>?_
  refine au 1 ?_
  refine st hm 1 fun w hm=>?_
  refine st hm 0 fun w hm=>?_
  refine au 4 ?_
  refine cA rfl rfl rfl (g_runs _ (hgz.to hm.to) fun _ h9 _ h8=>run_law h9 h8) hm fun w hm=>?_
  refine au 3 ?_
  refine Ja rfl rfl (JA (c:=true) (y_eq2 rfl rfl iii46) (by decide)) ?_
  refine au 4 ?_
  refine Ja rfl rfl (JA (c:=true) (y_eq2 rfl rfl iii46) (by decide)) ?_
  refine au 4 ?_
  refine cA rfl rfl rfl (C.as (v:=.bool true) (eq_b p_a p_u cap_a cap_u (Pl.apl f (cs.map CmdV.cm) nn.toNat) (Pl.apl f (cs.map CmdV.cm) nn.toNat) _ (ha_a.rd hm 5 rfl) (ha_u.rd hm 8 rfl) (by rw [Yq]; omega) (by rw [Yq]; omega)) (LM Value.bool (LQ rfl))) hm fun w hm=>?_
  refine au 4 ?_
  refine cA rfl rfl rfl (C.as (v:=.bool true) (eq_b p_b p_u cap_b cap_u (Pl.apl f (cs.map CmdV.cm) nn.toNat) (Pl.apl f (cs.map CmdV.cm) nn.toNat) _ (ha_b.rd hm 2 rfl) (ha_u.rd hm 8 rfl) (by rw [Yq]; omega) (by rw [Yq]; omega)) (LM Value.bool (LQ rfl))) hm fun w hm=>?_
  refine au 5 ?_
  refine Ja rfl rfl (JX rfl is5 it3 (Ql (by omega) (by omega))) ?_
  refine Ja rfl rfl (y_rem rfl rfl (by omega) rfl) ?_
  refine au 1 ?_
  refine Ja rfl rfl (JA (c:=true) (y_le rfl rfl) (LQ (by omega))) ?_
  refine au 6 ?_
  exact ⟨rfl,hm.to⟩
end Go.Proofs.YtaehgpeenaomcaaGreat
