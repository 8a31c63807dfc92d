/- Part 14 of the proof of TopShapes: ApF ApG ApH ApI ApJ ApK CpA CpB CpC CpD LayX GrE QtA QtB. Conditions: the hypotheses of each theorem. -/
import Derived.Test.YtaehgpeenaomcaaGreatY12
import Derived.Shelf.Sort.Plain
import Derived.Shelf.SlSortCmp.NoneTotal
import Derived.Shelf.SlicesG.Cmp
import Derived.Shelf.Bytes.SlIndexWhole
import Derived.Test.YtaehgpeenaomcaaGreatChecked
set_option maxRecDepth 10000
set_option maxHeartbeats 4000000
set_option linter.unusedVariables false
set_option linter.unusedSimpArgs false
namespace Go.Proofs.YtaehgpeenaomcaaGreat
open Go Go.Cx
theorem rd_sub{D:Pl.Dv}{f:List UInt8}{n a b:Int}(hd:D.dn=false)(h:Pl.rdB D 0 n=f)(hon:Pl.onD D 0 n=true)(ha:0≤a)(hb:0≤b)(hab:a+b≤n):Pl.rdB D a b=(f.drop a.toNat).take b.toNat:=by
 have h1:=Pl.XB hd hon
 have h2:Pl.onD D a b=true:=YJ hon rfl rfl ha hb (by omega)
 have h3:=Pl.XB hd h2
 rw [← h]
 unfold Pl.rdB
 rw [LI h1,LI h3,List.drop_take,List.take_take]
 congr 1
 omega
theorem dgS{w0 w w':World}{X:Bs}{p q:Nat×Blk}{Zh R B:List (Nat×Blk)}(h:Mem w0 w X (p::(Zh++R)))(hc:Mem w w' No (q::B)):Mem w0 w' X (q::p::(Zh++(B++R))):=by
 have h1:=h.Jt hc
 refine h1.perm ?_
 refine List.Perm.cons _ ?_
 refine (List.perm_middle).trans (List.Perm.cons _ ?_)
 exact List.perm_append_comm_assoc _ _ _
theorem held_notD{w0 w:World}{X:Bs}{A Zh R B:List (Nat×Blk)}{p:Nat×Blk}{u8:Nat}{s:SB}(hm:Mem w0 w X (A++(p::(Zh++(B++R)))))(h:Held B u8 s)(hne:s.bs.flatMap Jk≠[]):∀ ad,s.p=some ad→¬ Mn (reals Zh) ad.block:=by
 have h1:Mem w0 w X ((A++[p])++(Zh++(B++R))):=by simpa using hm
 exact held_notZ h1 (h.mono fun e he=>Lw _ he) hne
theorem fdB{w:World}{A Zh B F Zj Zd:List (Nat×Blk)}{p:Nat×Blk}(h:Jr w (A++(p::(Zh++(B++(F++(Zj++Zd))))))):Jr w Zd∧(∀ k,Mn (reals Zd) k→¬ Mn (reals (p::Zh)) k):=by
 have h1:Jr w (A++(p::(Zh++((B++F)++(Zj++Zd))))):=by simpa only [Lp] using h
 exact fdA h1
theorem fdN{w0 w:World}{X:Bs}{A Zh R:List (Nat×Blk)}{p:Nat×Blk}{n k:Nat}{b:Blk}(h:Mem w0 w X (A++(p::(Zh++R))))(hk:blk A k=some (n,b))(hb:b.real=true:=by rfl):¬ Mn (reals Zh) n:=fun h9=>by
 refine Mem.notT (A:=A) (Z:=p::(Zh++R)) h hk hb ?_
 refine mn_tail ?_
 show n∈reals (Zh++R)
 rw [Qi]; exact Lw _ h9
theorem fdS{w0 w:World}{X:Bs}{q p:Nat×Blk}{Zh R B:List (Nat×Blk)}(h:Mem w0 w X (q::p::(Zh++(B++R)))):Mem w0 w X (p::(Zh++R)):=
 h.drop (.cons _ (.cons_cons _ (List.Sublist.append_left (List.sublist_append_right _ _) _)))
theorem a_fin(K:ApK)(A:Pl.Ap)(pk:Int)(j:Nat)(Zj Zd:List (Nat×Blk))(w0:World)(hK:K.ok)(hs:Sid K A)(hO:Jr w0 (ApR K A pk j::(K.F++(Zj++Zd))))(hj:JZ 271 5 K.md (K.f:Int) K.bnd K.kk A.S j Zj)(hz:JV 112 258 5 A.D K.md Zd)(hsg:A.sg=false)(hst:A.st≠2)(hnx:A.nx=Pl.JF K.bnd K.cm):CE Tryz.prog 191 [.pointer (some ⟨K.ma,0,none⟩)] w0 (fun v w'=>v=.tuple ⟨[]⟩∧(A.fin K.f K.N K.bnd K.kk K.cm).1=0∧ApO K (A.fin K.f K.N K.bnd K.kk K.cm).2 pk w0 w' (ApR K A pk j::(K.F++(Zj++Zd)))) fun c w'=>(c=errP (A.fin K.f K.N K.bnd K.kk K.cm).1∧(A.fin K.f K.N K.bnd K.kk K.cm).1≠0)∧ApO K (A.fin K.f K.N K.bnd K.kk K.cm).2 pk w0 w' (ApR K A pk j::(K.F++(Zj++Zd))):=by
 have hnx0:=hs.nx
 have hfn:=Pl.JJ.1 hs.fn
 have hon:=hK.on
 have hbn:=hK.bn
 have hmx:=hK.mx
 have hcl:=hs.cl
 have hhh:=hs.hh hst hsg hnx
 obtain ⟨nnn,hnn⟩:∃ x:Nat,K.nn=x:=⟨K.nn.toNat,by omega⟩
 have hnl:K.nw.length≤1000000:=by rw [← hhh,hnn]; exact Ki (rdB_le _ _ _) (by omega)
 have hlen:Pl.first K.bnd (K.xs.map CmdV.cm) (K.xs.map CmdV.cm).length=Pl.JF K.bnd K.cm:=by rw [hK.xc]; rfl
 have hfin:A.fin K.f K.N K.bnd K.kk K.cm=if (Pl.japp A.D K.f K.N K.bnd A.S (Pl.jmk A.S K.kk (Pl.JF K.bnd K.cm) 0 [])).1≠0 then ((Pl.japp A.D K.f K.N K.bnd A.S (Pl.jmk A.S K.kk (Pl.JF K.bnd K.cm) 0 [])).1,⟨(Pl.japp A.D K.f K.N K.bnd A.S (Pl.jmk A.S K.kk (Pl.JF K.bnd K.cm) 0 [])).2.1,(Pl.japp A.D K.f K.N K.bnd A.S (Pl.jmk A.S K.kk (Pl.JF K.bnd K.cm) 0 [])).2.2,A.st,A.nx,A.sg⟩) else (0,⟨(Pl.japp A.D K.f K.N K.bnd A.S (Pl.jmk A.S K.kk (Pl.JF K.bnd K.cm) 0 [])).2.1,(Pl.japp A.D K.f K.N K.bnd A.S (Pl.jmk A.S K.kk (Pl.JF K.bnd K.cm) 0 [])).2.2,2,A.nx,A.sg⟩):=rfl
 refine CE_of Tryz.func191 rfl rfl rfl fun κ _ Je Jc hpan=>?_
 have hm:=hO.start
 refine au 2 ?_
 refine cT rfl rfl rfl (h_new _) fun v w hR=>?_
 obtain ⟨mh,Zh,rfl,hzh,hmc⟩:=hR
 replace hm:=hm.callN1 hmc
 refine au 4 ?_
 refine dw [0,3,6,9,12,15,18,21,24,27,2,31] hm fun w hw hm0 hh hm=>?_
 refine au 8 ?_
 refine Ja rfl rfl (y_v (Jh rfl sc3.h (hm0.nd 0 rfl id) rfl) (LM (Value.int .i64) hnn)) ?_
 refine au 2 ?_
 refine cT rfl rfl rfl (a_feed A.D K.md Zd K.ma K.bnd pk _ 0 nnn mh [] Zh _ ((fdA (A:=[])) hm.Jz).1 hz hzh (by simp) (fdO (A:=[]) hm.Jz) (hm.get (k:=0) rfl) (fun h9=>((fdA (A:=[])) hm.Jz).2 _ h9 mn_head) (YJ hs.fn rfl rfl (by omega) (by omega) (by omega)) hs.dn (fun k9 h9 h8=>((fdA (A:=[])) hm.Jz).2 k9 h9 (mn_tail h8)) (by omega)) fun v w hR=>?_
 obtain ⟨rfl,pk1,Zh1,hzh1,hp1,hp2,hmc⟩:=hR
 replace hm:=fdM (A:=[]) hm hmc
 rw [L4,← hnn] at hzh1
 replace hzh1:VN 126 5 K.nw mh Zh1:=hhh▸hzh1
 refine au 4 ?_
 refine dw [0,6,9,12,15,18,4,21] hm fun w hw hm0 hh hm=>?_
 refine au 5 ?_
 refine Ja rfl rfl (Jm (s:=32) (vs:=hV (Pl.sha K.nw)) rfl ag23.h (hm0.nd 0 rfl id) rfl) ?_
 refine cB rfl rfl rfl (C.as (v:=.agg ⟨hV (Pl.sha K.nw)⟩) (h_sum 126 mh K.nw Zh1 _ (fdO (A:=[]) hm.Jz).tail hzh1 (by omega)) (by rw [hV_eq (Pl.Qz _)])) hm hh fun w hm hh=>?_
 refine Ja rfl rfl (JA (c:=false) (y_neF rfl rfl fl23 rfl rfl) (by simp [eqL,lfEq,hV])) ?_
 refine au 6 ?_
 refine dw [0,3,6,9,12,15,18,21,25,2,28,31] hm fun w hw hm0 hh hm=>?_
 refine au 1 ?_
 replace hm:=fdX (A:=[]) hm
 refine au 7 ?_
 refine cB rfl rfl rfl (C.as (v:=.int .i64 (Pl.JF K.bnd K.cm)) (p_len K.mp K.bnd K.pf K.cf K.pb K.cb K.pl K.cl K.xs _ (hK.pl _ (Xs (A:=[_]) hm.Jz)).1 (hK.pl _ (Xs (A:=[_]) hm.Jz)).2.1 (hK.pl _ (Xs (A:=[_]) hm.Jz)).2.2.1 (hK.pl _ (Xs (A:=[_]) hm.Jz)).2.2.2.1 hK.fw (by omega)) (by rw [hlen])) hm hh fun w hm hh=>?_
 refine au 1 ?_
 refine cT rfl rfl rfl (YM A.D K.md Zd A.S j Zj K.f K.N K.bnd K.kk (Pl.JF K.bnd K.cm) 0 none 0 [] [] _ (ownJ (A:=[_]) hm.Jz) hz hj (by simp only [Pl.I64]; omega) hs.sl hK.n0 hs.h2 hs.hS hK.k64 (by simp only [Pl.I64]; omega) (by simp only [Pl.I64]; omega) rfl (by simp) (by simp) rfl (by simp) (by omega)) fun v w hR=>?_
 obtain ⟨rfl,Zj1,Zd1,hj1,hz1,hmc⟩:=hR
 replace hm:=apJ (A:=[_]) hm hmc
 refine Vo rfl rfl rfl go235 (YZ _ _) (fun c w hE a hfa=>hpan c a w hfa.defers ?_) fun v w hR=>?_
 ·
  obtain ⟨⟨rfl,he9⟩,hE⟩:=hE
  rw [hfin,LI he9]
  exact ⟨⟨rfl,he9⟩,.mk hp2 hj1 hz1 ((hm.Jp [0] 1 rfl).ext hE)⟩
 obtain ⟨⟨rfl,he9⟩,hE⟩:=hR
 refine ⟨trivial,?_⟩
 replace hm:=hm.ext hE
 refine au 6 ?_
 refine st hm 0 fun w hm=>?_
 refine au 1 ?_
 refine toN (fin Jc rfl .nil .nil ?_)
 rw [hfin,LH (fun h=>h he9)]
 exact ⟨rfl,rfl,.mk hp2 hj1 hz1 (hm.Jp [0] 1 rfl)⟩
theorem a_digests(K:ApK)(A:Pl.Ap)(pk:Int)(j:Nat)(Zj Zd:List (Nat×Blk))(w0:World)(hK:K.ok)(hs:Sid K A)(hO:Jr w0 (ApR K A pk j::(K.F++(Zj++Zd))))(hj:JZ 271 5 K.md (K.f:Int) K.bnd K.kk A.S j Zj)(hz:JV 112 258 5 A.D K.md Zd)(hrd:Pl.rdB A.D 0 K.oo=K.fl):C Tryz.prog 188 [.pointer (some ⟨K.ma,0,none⟩)] w0 fun v w'=>v=.tuple ⟨[]⟩∧ApO K A pk w0 w' (ApR K A pk j::(K.F++(Zj++Zd))):=by
 have hfo:=Pl.JJ.1 hs.fo
 have hon:=hK.on
 have hbn:=hK.bn
 have hv:Pl.VD K.oo K.nn (K.cs.map CmdV.cm):=hK.vd
 have hone:∀ c∈K.cs,Pl.single K.oo K.nn c.cm=0:=fun c hc=>hv.one c.cm (Ln.2 ⟨c,hc,rfl⟩)
 obtain ⟨oon,hoo⟩:∃ x:Nat,K.oo=x:=⟨K.oo.toNat,by omega⟩
 have hol:=hK.ol
 refine Vk Tryz.func188 rfl rfl rfl fun κ _ Je Jc=>?_
 have hm:=hO.start
 refine au 2 ?_
 refine cT rfl rfl rfl (h_new _) fun v w hR=>?_
 obtain ⟨mh,Zh,rfl,hzh,hmc⟩:=hR
 replace hm:=hm.callN1 hmc
 refine au 4 ?_
 refine dw [0,3,6,9,12,15,18,21,24,27,2,31] hm fun w hw hm0 hh hm=>?_
 refine au 8 ?_
 refine Ja rfl rfl (y_v (Jh rfl sc3.h (hm0.nd 0 rfl id) rfl) (LM (Value.int .i64) hoo)) ?_
 refine au 2 ?_
 refine cT rfl rfl rfl (a_feed A.D K.md Zd K.ma K.bnd pk _ 0 oon mh [] Zh _ ((fdA (A:=[])) hm.Jz).1 hz hzh (by simp) (fdO (A:=[]) hm.Jz) (hm.get (k:=0) rfl) (fun h9=>((fdA (A:=[])) hm.Jz).2 _ h9 mn_head) (YJ hs.fo rfl rfl (by omega) (by omega) (by omega)) hs.dn (fun k9 h9 h8=>((fdA (A:=[])) hm.Jz).2 k9 h9 (mn_tail h8)) (by omega)) fun v w hR=>?_
 obtain ⟨rfl,pk1,Zh1,hzh1,hp1,hp2,hmc⟩:=hR
 replace hm:=fdM (A:=[]) hm hmc
 rw [L4,← hoo] at hzh1
 replace hzh1:VN 126 5 K.fl mh Zh1:=hrd▸hzh1
 refine au 4 ?_
 refine dw [0,6,9,12,15,18,4,21] hm fun w hw hm0 hh hm=>?_
 refine au 5 ?_
 refine Ja rfl rfl (Jm (s:=32) (vs:=hV (Pl.sha K.fl)) rfl ag23.h (hm0.nd 0 rfl id) rfl) ?_
 refine cB rfl rfl rfl (C.as (v:=.agg ⟨hV (Pl.sha K.fl)⟩) (h_sum 126 mh K.fl Zh1 _ (fdO (A:=[]) hm.Jz).tail hzh1 (by omega)) (by rw [hV_eq (Pl.Qz _)])) hm hh fun w hm hh=>?_
 refine Ja rfl rfl (JA (c:=false) (y_neF rfl rfl fl23 rfl rfl) (by simp [eqL,lfEq,hV])) ?_
 refine au 7 ?_
 refine cT rfl rfl rfl (h_new _) fun v w hR=>?_
 obtain ⟨mh,Zh,rfl,hzh,hmc⟩:=hR
 replace hm:=fdX (A:=[]) hm
 clear hzh1
 replace hm:=hm.callN1 hmc
 refine au 9 ?_
 refine Ja rfl rfl (Jm (s:=67) (vs:=dlV K.oo K.nn K.H _ _ _) rfl ag26.h (hm.nt 0 rfl) rfl) ?_
 have hdl:=hK.dl _ (fdR (A:=[]) hm.Jz).left
 have hcon:=d_sort K.oo K.nn K.H K.q K.cq K.cs _ hdl.1 hK.few hdl.2 (V5 hv (by omega)) hv
 refine cT rfl rfl rfl hcon fun v w hR=>?_
 obtain ⟨zs,ys,p_s,n_s,cap_s,g_s,b_s,B_s,rfl,ha_s,hys,hhs,hzp,hzs,hmc⟩:=hR
 replace hm:=dgS hm hmc
 obtain rfl:=ha_s.QB Jf (by decide)
 have hzp':zs.Perm (Pl.ids (K.cs.map CmdV.cm).length):=by rw [Lj]; exact hzp
 have hzs':Pl.Srt (Pl.Zi (K.cs.map CmdV.cm)) zs 0 (K.cs.map CmdV.cm).length:=by rw [Lj]; exact hzs
 have hyc:∀ y∈ys,Pl.single K.oo K.nn y.cm=0:=fun y hy=>by
  have h9:y.cm∈ys.map CmdV.cm:=Ln.2 ⟨y,hy,rfl⟩
  rw [hys] at h9
  obtain ⟨c,hc,e⟩:=Ln.1 h9
  rw [← e]; exact hone c (fm_mem hc)
 have hall:(((ys).map CmdV.cm).flatMap (Pl.cbs K.fl))=K.nw:=by
  rw [hys,fm_pick,Pl.flat_all hv hol hzp' hzs']; rfl
 have hyl:ys.length≤20:=by
  have h9:=LM List.length hys
  rw [Lj,Lj] at h9
  have h8:=fm_len (cs:=K.cs) (zs:=zs)
  have h7:=hzp.length_eq
  rw [Pl.Qj] at h7
  have h6:=hK.few
  omega
 have hal:K.nw.length≤1000000:=by unfold ApK.nw Pl.apl; rw [Lj,List.length_range]; omega
 have hpre:∀ k,(((ys.take k).map CmdV.cm).flatMap (Pl.cbs K.fl)).length≤1000000:=fun k=>by
  have h9:(((ys).map CmdV.cm).flatMap (Pl.cbs K.fl)).length=(((ys.take k).map CmdV.cm).flatMap (Pl.cbs K.fl)).length+(((ys.drop k).map CmdV.cm).flatMap (Pl.cbs K.fl)).length:=by
   conv=>lhs; rw [← Ke k ys]
   rw [Lx,Lh,Lc]
  rw [hall] at h9
  omega
 refine Ja rfl rfl (QF rfl fv26_4 rfl) ?_
 refine au 5 ?_
 refine Jg (ι:=Nat×Int×List (Nat×Blk)) rfl (ks:=[0,2,34,35]) (.cons rfl (.cons rfl (.cons rfl (.cons rfl .nil)))) (fun x=>[(36,.int .i64 (x.1:Int))]) (fun x w=>Mem w0 w (Mn (reals (ApR K A pk j::(K.F++(Zj++Zd))))) ((g_s,b_s)::ApR K A x.2.1 j::(x.2.2++(B_s++(K.F++(Zj++Zd)))))∧VN 126 5 (((ys.take x.1).map CmdV.cm).flatMap (Pl.cbs K.fl)) mh x.2.2∧x.1≤ys.length∧x.2.1≤max pk K.bnd) (fun x=>ys.length-x.1) (0,pk1,Zh) (⟨(hm.Jp [0,1] 2 rfl),hzh,LL _,hp2⟩) ⟨rfl,trivial⟩ (fun x w hM=>?_)
 obtain ⟨k,pk2,Zh⟩:=x
 obtain ⟨hm,hzh,hk,hp3⟩:=hM
 simp only at hm hzh hk hp3
 refine au 6 ?_
 refine cd (fun hc1=>?_) fun hc1=>?_
 ·
  simp only [dT] at hc1
  obtain ⟨y,hi⟩:∃ y_,ys[k]?=some y_:=⟨_,La (by omega)⟩
  have hym:=Ld hi
  have hy1:=Pl.Jw (hyc y hym)
  have hyh:=hhs y hym
  have hyk:=Pl.Jl hy1.1
  obtain ⟨qb2,qo,rfl⟩:=(ha_s.rd hm 0 rfl).atI Jf (by decide) hi
  have hp1:=hpre k
  have hp2:=hpre (k+1)
  rw [f_next hi,Lc] at hp2
  refine au 7 ?_
  refine Ja rfl rfl (JU rfl ag60.h (ha_s.rd hm 0 rfl).nt Jf hi) ?_
  refine aT hm fun c4 w hm=>?_
  refine st hm 0 fun w hm=>?_
  refine au 5 ?_
  refine cA rfl rfl rfl (VI y.cm y.d.p y.d.cap _) hm fun w hm=>?_
  refine au 3 ?_
  refine aT hm fun s5 w hm=>?_
  refine st hm 0 fun w hm=>?_
  refine au 8 ?_
  refine cd (fun hc2=>?_) fun hc2=>?_
  ·
   simp only [dT] at hc2
   have hy2:=hy1.2.1 hc2
   obtain ⟨fa,hfa⟩:∃ x:Nat,y.cm.fr=x:=⟨y.cm.fr.toNat,by omega⟩
   obtain ⟨fl,hfl⟩:∃ x:Nat,y.cm.ln=x:=⟨y.cm.ln.toNat,by omega⟩
   have hcb:Pl.rdB A.D (fa:Int) (fl:Int)=Pl.cbs K.fl y.cm:=by rw [rd_sub hs.dn hrd hs.fo (by omega) (by omega) (by omega),← hfa,← hfl]; unfold Pl.cbs; rw [LI hc2]
   refine dw [0,3,6,9,12,2,16] hm fun w hw hm0 hh hm=>?_
   refine au 4 ?_
   refine Ja rfl rfl (y_v (Jm (s:=2) (vs:=[_,_]) rfl ag32.h (hm0.nd 0 rfl id) rfl) (LM (fun x=>Value.agg ⟨x⟩) (by unfold Pl.csrc; rw [LI hc2,hfa,hfl]; rfl:Q9 (Pl.csrc y.cm)=[.int .i64 (fa:Int),.int .i64 (fl:Int)]))) ?_
   refine au 1 ?_
   refine cT rfl rfl rfl (a_feed A.D K.md Zd K.ma K.bnd pk2 _ fa fl mh (((ys.take k).map CmdV.cm).flatMap (Pl.cbs K.fl)) Zh _ ((fdB (A:=[_,_,_])) hm.Jz).1 hz hzh (by omega) (fdO (A:=[_,_,_]) hm.Jz) (hm.get (k:=3) rfl) (fun h9=>((fdB (A:=[_,_,_])) hm.Jz).2 _ h9 mn_head) (YJ hs.fo rfl rfl (by omega) (by omega) (by omega)) hs.dn (fun k9 h9 h8=>((fdB (A:=[_,_,_])) hm.Jz).2 k9 h9 (mn_tail h8)) (by omega)) fun v w hR=>?_
   obtain ⟨rfl,pk1,Zh1,hzh1,hp1,hp2,hmc⟩:=hR
   replace hm:=fdM (A:=[_,_,_]) hm hmc
   rw [hcb] at hzh1
   refine au 7 ?_
   refine next (k+1,_,_) (by simp only; omega) ⟨(hm.Jp [2,3] 4 rfl),by simp only; rw [f_next hi]; exact hzh1,by simp only; omega,by simp only; omega⟩ ⟨nx k,rfl,rfl,rfl,rfl,trivial⟩
  ·
   simp only [dF] at hc2
   have hcb:Pl.cbs K.fl y.cm=y.d.bs:=by unfold Pl.cbs; rw [LH hc2]; rfl
   refine au 4 ?_
   refine Jb (l:=[_]) rfl rfl sl88.h z22.h rfl rfl rfl rfl rfl rfl rfl hm trivial fun m7 w hg_m7 hm hh=>?_
   refine cT rfl rfl rfl (h_write _ 1 [⟨y.d.p,y.d.cap,y.d.bs⟩] 126 mh (((ys.take k).map CmdV.cm).flatMap (Pl.cbs K.fl)) Zh _ (fdO (A:=[_,_,_,_]) hm.Jz).tail hzh (by omega) (Rd.JL (hm.get (k:=0) rfl)) (by intro s9 hs9; rw [Lf.1 hs9]; exact hyh.rd hm (by intro e he; exact Ly [_,_,_,_] (.tail _ (Ly _ (Lw _ he))))) (fun _ ad h=>by cases h; exact fdN (A:=[_,_,_,_]) (k:=0) hm rfl) (by intro s9 hs9; rw [Lf.1 hs9]; exact held_notD (A:=[_,_,_,_]) hm hyh) (by simp) (by simp only [Lk,LY,Lq]; rw [← hcb]; omega)) fun v w hR=>?_
   obtain ⟨rfl,Zh1,hzh1,hmc⟩:=hR
   replace hm:=fdZ (A:=[_,_,_,_]) hm hmc
   simp only [Lk,LY,Lq] at hzh1
   rw [← hcb] at hzh1
   refine au 7 ?_
   refine next (k+1,_,_) (by simp only; omega) ⟨(hm.Jp [3,4] 5 rfl),by simp only; rw [f_next hi]; exact hzh1,by simp only; omega,by simp only; omega⟩ ⟨nx k,rfl,rfl,rfl,rfl,trivial⟩
 ·
  simp only [dF] at hc1
  have hke:k=ys.length:=by omega
  rw [hke,Lv,hall] at hzh
  refine au 6 ?_
  refine dw [0,6,9,12,15,18,4,21] hm fun w hw hm0 hh hm=>?_
  refine au 5 ?_
  refine Ja rfl rfl (Jm (s:=32) (vs:=hV (Pl.sha K.nw)) rfl ag23.h (hm0.nd 1 rfl id) rfl) ?_
  refine cB rfl rfl rfl (C.as (v:=.agg ⟨hV (Pl.sha K.nw)⟩) (h_sum 126 mh K.nw Zh _ (fdO (A:=[_]) hm.Jz).tail hzh (by omega)) (by rw [hV_eq (Pl.Qz _)])) hm hh fun w hm hh=>?_
  refine Ja rfl rfl (JA (c:=false) (y_neF rfl rfl fl23 rfl rfl) (by simp [eqL,lfEq,hV])) ?_
  refine au 4 ?_
  refine toN (fin Jc rfl .nil .nil ?_)
  exact ⟨rfl,.mk hp3 hj hz (fdX (A:=[]) (fdS (hm.Jp [0,1] 2 rfl)))⟩
theorem a_tryR(m:Nat)(w0:World):CallsD Tryz.prog 232 ⟨[.pointer (some ⟨m,0,none⟩)]⟩ .returning w0 fun e u' w'=>u'=recM .returning∧Rt (fun v w'=>v=.tuple ⟨[]⟩∧Ext No w0 w') e w':=by
 refine CDr_of (t:=4) Tryz.func232 rfl rfl rfl rfl rfl rfl fun κ _ Je Jc=>?_
 have hm:=Mem.start w0
 refine au 3 ?_
 refine Ja rfl rfl (JA (c:=true) (y_inil rfl rfl (by kernel_rfl) rfl) rfl) ?_
 refine au 7 ?_
 refine toN (fin Jc rfl .nil .nil ?_)
 exact ⟨rfl,hm.to⟩
theorem a_tryP(m:Nat)(e:Int)(x:Value)(w0:World)(hr:w0.heap[m]?=some (Blk.row 35 [x]).Jd):CallsD Tryz.prog 232 ⟨[.pointer (some ⟨m,0,none⟩)]⟩ (.panicking (errP e)) w0 fun e' u' w'=>u'=recM (.panicking (errP e))∧Rt (fun v w'=>v=.tuple ⟨[]⟩∧Mem w0 w' (fun k=>k=m) [(m,.row 35 [.int .i64 e])]) e' w':=by
 refine CDr_of (t:=4) Tryz.func232 rfl rfl rfl rfl rfl rfl fun κ _ Je Jc=>?_
 have hm:=Mem.Vq hr
 refine au 3 ?_
 refine Ja rfl rfl (JA (c:=false) (y_inil rfl rfl (by kernel_rfl) rfl) rfl) ?_
 refine au 5 ?_
 refine Ja rfl rfl (y_assert rfl un35 rfl) ?_
 refine au 12 ?_
 refine st hm 0 fun w hm=>?_
 refine au 2 ?_
 refine toN (fin Jc rfl .nil .nil ?_)
 exact ⟨rfl,hm⟩
theorem a_try(g:FuncId)(vs:List Value)(P0:Int→List (Nat×Blk)→Prop)(Z:List (Nat×Blk))(w0:World)(hZ:Jr w0 Z)(hg:JH Tryz.prog g=true)(h:∀ w,Jr w Z→CE Tryz.prog g vs w (fun v w'=>v=.tuple ⟨[]⟩∧∃ Z',P0 0 Z'∧Mem w w' (Mn (reals Z)) Z') (fun c w'=>∃ e,c=errP e∧∃ Z',P0 e Z'∧Mem w w' (Mn (reals Z)) Z')):C Tryz.prog 187 [.func (.func g) ⟨vs⟩ ⟨[]⟩] w0 fun v w'=>∃ e Z',v=.int .i64 e∧P0 e Z'∧Mem w0 w' (Mn (reals Z)) Z':=by
 refine CE.c (E:=fun _ _=>False) (CD_of Tryz.func187 rfl rfl rfl ?_) (fun _ _ h=>h)
 have hm:=hZ.start
 refine au 2 ?_
 refine aT hm fun mt w hm=>?_
 refine au 3 ?_
 refine HW_textN (.pure 0 (.act 1 .done)) (by kernel_rfl) ?_
 refine au 1 ?_
 refine a_defer rfl rfl rfl trivial ?_
 refine au 5 ?_
 refine a_callVE rfl rfl rfl rfl hg (by simpa using h _ hm.Jz.tail) (fun c w hE a hfa=>?_) fun v w hR=>?_
 · obtain ⟨e,rfl,Z',hp,hmc⟩:=hE
   have hm2:=Mem.JQ (A:=[_]) hm hmc
   show Leaves _ _ _ _ a.defers _ _
   rw [hfa.defers]
   refine leave1 (by simp) (a_tryP mt e _ w (hm2.get (k:=0) rfl)) go232 rfl fun v w' hv=>?_
   obtain ⟨rfl,hmt⟩:=hv
   have hm3:=hm2.Qv (N:=[]) 0 rfl hmt
   refine fin_res (fn:=Tryz.f187) (R:=fun v w'=>∃ e Z',v=.int .i64 e∧P0 e Z'∧Mem w0 w' (Mn (reals Z)) Z') (v:=.int .i64 e) rfl (.cell rfl (JN sc35.h (hm3.get (k:=0) rfl) rfl) .nil) .one ?_ hfa
   exact ⟨e,Z',rfl,hp,hm3.tail⟩
 obtain ⟨rfl,Z',hp,hmc⟩:=hR
 refine ⟨trivial,?_⟩
 replace hm:=Mem.JQ (A:=[_]) hm hmc
 refine au 4 ?_
 refine st hm 0 fun w hm=>?_
 refine au 3 ?_
 refine toR fun a hfa=>?_
 show Leaves _ _ _ _ a.defers _ _
 rw [hfa.defers]
 refine leave1 (by simp) (a_tryR mt w) go232 rfl fun v w' hv=>?_
 obtain ⟨rfl,hE⟩:=hv
 have hm3:=hm.ext hE
 refine fin_res (fn:=Tryz.f187) (R:=fun v w'=>∃ e Z',v=.int .i64 e∧P0 e Z'∧Mem w0 w' (Mn (reals Z)) Z') (v:=.int .i64 0) rfl (.cell rfl (JN sc35.h (hm3.get (k:=0) rfl) rfl) .nil) .one ?_ hfa
 exact ⟨0,Z',rfl,hp,hm3.tail⟩
theorem a_tryOf{g:FuncId}{vs:List Value}{X:Int×Pl.Ap}{K:ApK}{pk:Int}{Z:List (Nat×Blk)}{w:World}(h:CE Tryz.prog g vs w (fun v w'=>v=.tuple ⟨[]⟩∧X.1=0∧ApO K X.2 pk w w' Z) (fun c w'=>(c=errP X.1∧X.1≠0)∧ApO K X.2 pk w w' Z)) :
 CE Tryz.prog g vs w (fun v w'=>v=.tuple ⟨[]⟩∧∃ Z',(0=X.1∧∃ pk',pk'≤max pk K.bnd∧AZ K X.2 pk' Z')∧Mem w w' (Mn (reals Z)) Z') (fun c w'=>∃ e,c=errP e∧∃ Z',(e=X.1∧∃ pk',pk'≤max pk K.bnd∧AZ K X.2 pk' Z')∧Mem w w' (Mn (reals Z)) Z'):=
 h.mono (fun v w ⟨h1,h2,pk',Z',h3,h4,h5⟩=>⟨h1,Z',⟨h2.symm,pk',h3,h4⟩,h5⟩) fun c w ⟨⟨h1,_⟩,pk',Z',h3,h4,h5⟩=>⟨_,h1,Z',⟨rfl,pk',h3,h4⟩,h5⟩
theorem a_verify(K:ApK)(A:Pl.Ap)(pk:Int)(j:Nat)(Zj Zd:List (Nat×Blk))(w0:World)(hK:K.ok)(hs:Sid K A)(hO:Jr w0 (ApR K A pk j::(K.F++(Zj++Zd))))(hj:JZ 271 5 K.md (K.f:Int) K.bnd K.kk A.S j Zj)(hz:JV 112 258 5 A.D K.md Zd)(hrd:A.st=0→Pl.rdB A.D 0 K.oo=K.fl):C Tryz.prog 150 [.pointer (some ⟨K.ma,0,none⟩)] w0 fun v w'=>v=.agg ⟨[.int .i64 0,.int .i64 0]⟩∧ApO K A pk w0 w' (ApR K A pk j::(K.F++(Zj++Zd))):=by
 refine Vk Tryz.func150 rfl rfl rfl fun κ _ Je Jc=>?_
 have hm:=hO.start
 refine au 2 ?_
 refine aT hm fun m1 w hm=>?_
 refine au 22 ?_
 refine cd (fun hc1=>?_) fun hc1=>?_
 ·
  simp only [dT] at hc1
  refine au 3 ?_
  refine st hm 0 fun w hm=>?_
  refine au 5 ?_
  exact ⟨rfl,.mk (Int.le_max_left ..) hj hz (hm.Jp [1] 2 rfl)⟩
 ·
  simp only [dF,Classical.not_not] at hc1
  refine au 6 ?_
  refine cT rfl rfl rfl (a_try 188 [.pointer (some ⟨K.ma,0,none⟩)] (fun e Z9=>e=0∧∃ pk9,pk9≤max pk K.bnd∧AZ K A pk9 Z9) _ _ (Jr.right (A:=[_]) hm.Jz) go188 (fun w9 hw9=>CE.of ((a_digests K A pk j Zj Zd w9 hK hs hw9 hj hz (hrd hc1)).mono fun v w' ⟨h1,pk',Z',h3,h4,h5⟩=>⟨h1,Z',⟨rfl,pk',h3,h4⟩,h5⟩))) fun v w hR=>?_
  obtain ⟨e9,Z9,rfl,⟨rfl,pk9,hpk9,hz9⟩,hmc⟩:=hR
  replace hm:=Mem.JQ (A:=[_]) hm hmc
  refine au 1 ?_
  refine st hm 0 fun w hm=>?_
  refine au 4 ?_
  exact ⟨rfl,pk9,Z9,hpk9,hz9,(hm.Jp [] 1 rfl)⟩
theorem a_step(K:ApK)(A:Pl.Ap)(pk:Int)(j:Nat)(Zj Zd:List (Nat×Blk))(w0:World)(hK:K.ok)(hs:Sid K A)(hO:Jr w0 (ApR K A pk j::(K.F++(Zj++Zd))))(hj:JZ 271 5 K.md (K.f:Int) K.bnd K.kk A.S j Zj)(hz:JV 112 258 5 A.D K.md Zd):C Tryz.prog 151 [.pointer (some ⟨K.ma,0,none⟩)] w0 fun v w'=>v=.tuple ⟨[.bool (decide ((A.step K.f K.N K.bnd K.kk K.cm).1=0)&&decide ((A.step K.f K.N K.bnd K.kk K.cm).2.st=2)),.int .i64 (A.step K.f K.N K.bnd K.kk K.cm).1]⟩∧ApO K (A.step K.f K.N K.bnd K.kk K.cm).2 pk w0 w' (ApR K A pk j::(K.F++(Zj++Zd))):=by
 have hnx:=hs.nx
 have hmx:=hK.mx
 have hlen:Pl.first K.bnd (K.xs.map CmdV.cm) (K.xs.map CmdV.cm).length=Pl.JF K.bnd K.cm:=by rw [hK.xc]; rfl
 refine Vk Tryz.func151 rfl rfl rfl fun κ _ Je Jc=>?_
 have hm:=hO.start
 refine au 26 ?_
 refine cd (fun hc1=>?_) fun hc1=>?_
 ·
  simp only [dT] at hc1
  have hst:(A.step K.f K.N K.bnd K.kk K.cm)=(0,A):=by unfold Pl.Ap.step; rw [LI hc1]
  refine au 9 ?_
  rw [hst]
  exact ⟨by simp [hc1],.mk (Int.le_max_left ..) hj hz (hm.Jp [0] 1 rfl)⟩
 ·
  simp only [dF] at hc1
  refine au 20 ?_
  refine cd (fun hc2=>?_) fun hc2=>?_
  ·
   have hc2:=hc2
   refine au 10 ?_
   refine cT rfl rfl rfl (a_try 190 [.pointer (some ⟨K.ma,0,none⟩)] (fun e Z9=>e=A.redo.1∧∃ pk9,pk9≤max pk K.bnd∧AZ K A.redo.2 pk9 Z9) _ _ hm.Jz (by kernel_rfl) (fun w9 hw9=>a_tryOf (a_redo K A pk j Zj Zd w9 hK hs hw9 hj hz hc2))) fun v w hR=>?_
   obtain ⟨e9,Z9,rfl,⟨rfl,pk9,hpk9,j9,Zj9,Zd9,rfl,hj9,hz9⟩,hmc⟩:=hR
   replace hm:=Mem.JQ (A:=[]) hm hmc
   have hst:(A.step K.f K.N K.bnd K.kk K.cm)=A.redo:=by unfold Pl.Ap.step; rw [LH hc1,LI hc2]
   refine Ja rfl rfl (J4 rfl) ?_
   refine Qc ?_
   refine QV ?_
   refine Qb rfl ?_
   refine JT (.pure 0 (.pure 1 (.pure 2 (.pure 3 (.pure 4 (.pure 5 (.pure 6 (.pure 7 (.pure 8 (.pure 9 (.pure 10 (.pure 11 .done)))))))))))) (by kernel_rfl) ?_
   refine Ja rfl rfl (Jx rfl) ?_
   refine Ja rfl rfl (V3 rfl rfl) ?_
   refine Ja rfl rfl (Jx rfl) ?_
   refine JK rfl rfl rfl (fun hc=>(Jx rfl)) ?_
   refine JK rfl rfl rfl (fun hc=>(y_nil (gx hc rfl))) ?_
   refine JK rfl rfl rfl (fun hc=>(Jv (gx hc rfl) fo183_4.h)) ?_
   refine JK rfl rfl rfl (fun hc=>(Jh (gx hc rfl) sc3.h (hm.nt 0 rfl) rfl)) ?_
   refine JK rfl rfl rfl (fun hc=>(V3 (gx hc rfl) rfl)) ?_
   refine Ja rfl rfl (y_and rfl rfl rfl) ?_
   refine Ja rfl rfl (Jx rfl) ?_
   refine Ja rfl rfl (J4 rfl) ?_
   refine Ja rfl rfl (J4 rfl) ?_
   refine Qc ?_
   refine QV ?_
   refine HW_ret rfl ?_
   refine toR (fin Je rfl (.tmp rfl (.tmp rfl .nil)) .more ?_)
   rw [hst]
   exact ⟨rfl,.mk hpk9 hj9 hz9 (hm.Jp [0] 1 rfl)⟩
  ·
   have hc2:=hc2
   refine au 1 ?_
   refine dw [0,3,6,9,12,15,18,21,25,27,30] hm fun w hw hm0 hh hm=>?_
   refine au 8 ?_
   refine cB rfl rfl rfl (C.as (v:=.int .i64 (Pl.JF K.bnd K.cm)) (p_len K.mp K.bnd K.pf K.cf K.pb K.cb K.pl K.cl K.xs _ (hK.pl _ (Xs (A:=[_]) hm.Jz)).1 (hK.pl _ (Xs (A:=[_]) hm.Jz)).2.1 (hK.pl _ (Xs (A:=[_]) hm.Jz)).2.2.1 (hK.pl _ (Xs (A:=[_]) hm.Jz)).2.2.2.1 hK.fw (by omega)) (by rw [hlen])) hm hh fun w hm hh=>?_
   refine au 4 ?_
   refine cd (fun hc3=>?_) fun hc3=>?_
   ·
    simp only [dT] at hc3
    refine au 10 ?_
    refine cT rfl rfl rfl (a_try 191 [.pointer (some ⟨K.ma,0,none⟩)] (fun e Z9=>e=(A.fin K.f K.N K.bnd K.kk K.cm).1∧∃ pk9,pk9≤max pk K.bnd∧AZ K (A.fin K.f K.N K.bnd K.kk K.cm).2 pk9 Z9) _ _ hm.Jz (by kernel_rfl) (fun w9 hw9=>a_tryOf (a_fin K A pk j Zj Zd w9 hK hs hw9 hj hz hc2 hc1 hc3))) fun v w hR=>?_
    obtain ⟨e9,Z9,rfl,⟨rfl,pk9,hpk9,j9,Zj9,Zd9,rfl,hj9,hz9⟩,hmc⟩:=hR
    replace hm:=Mem.JQ (A:=[]) hm hmc
    have hst:(A.step K.f K.N K.bnd K.kk K.cm)=(A.fin K.f K.N K.bnd K.kk K.cm):=by unfold Pl.Ap.step; rw [LH hc1,LH (by rw [hc2]; decide),LI hc3]
    refine Ja rfl rfl (J4 rfl) ?_
    refine Qc ?_
    refine QV ?_
    refine Qb rfl ?_
    refine JT (.pure 0 (.pure 1 (.pure 2 (.pure 3 (.pure 4 (.pure 5 (.pure 6 (.pure 7 (.pure 8 (.pure 9 (.pure 10 (.pure 11 .done)))))))))))) (by kernel_rfl) ?_
    refine Ja rfl rfl (Jx rfl) ?_
    refine Ja rfl rfl (V3 rfl rfl) ?_
    refine Ja rfl rfl (Jx rfl) ?_
    refine JK rfl rfl rfl (fun hc=>(Jx rfl)) ?_
    refine JK rfl rfl rfl (fun hc=>(y_nil (gx hc rfl))) ?_
    refine JK rfl rfl rfl (fun hc=>(Jv (gx hc rfl) fo183_4.h)) ?_
    refine JK rfl rfl rfl (fun hc=>(Jh (gx hc rfl) sc3.h (hm.nt 0 rfl) rfl)) ?_
    refine JK rfl rfl rfl (fun hc=>(V3 (gx hc rfl) rfl)) ?_
    refine Ja rfl rfl (y_and rfl rfl rfl) ?_
    refine Ja rfl rfl (Jx rfl) ?_
    refine Ja rfl rfl (J4 rfl) ?_
    refine Ja rfl rfl (J4 rfl) ?_
    refine Qc ?_
    refine QV ?_
    refine HW_ret rfl ?_
    refine toR (fin Je rfl (.tmp rfl (.tmp rfl .nil)) .more ?_)
    rw [hst]
    exact ⟨rfl,.mk hpk9 hj9 hz9 (hm.Jp [0] 1 rfl)⟩
   ·
    simp only [dF] at hc3
    have hsg:A.nx<Pl.JF K.bnd K.cm:=by omega
    refine au 6 ?_
    refine cT rfl rfl rfl (a_try 189 [.pointer (some ⟨K.ma,0,none⟩)] (fun e Z9=>e=(A.exec K.f K.N K.bnd K.kk K.cm).1∧∃ pk9,pk9≤max pk K.bnd∧AZ K (A.exec K.f K.N K.bnd K.kk K.cm).2 pk9 Z9) _ _ hm.Jz (by kernel_rfl) (fun w9 hw9=>a_tryOf (a_exec K A pk j Zj Zd w9 hK hs hw9 hj hz hsg))) fun v w hR=>?_
    obtain ⟨e9,Z9,rfl,⟨rfl,pk9,hpk9,j9,Zj9,Zd9,rfl,hj9,hz9⟩,hmc⟩:=hR
    replace hm:=Mem.JQ (A:=[]) hm hmc
    have hst:(A.step K.f K.N K.bnd K.kk K.cm)=(A.exec K.f K.N K.bnd K.kk K.cm):=by unfold Pl.Ap.step; rw [LH hc1,LH (by rw [hc2]; decide),LH hc3]
    refine Ja rfl rfl (J4 rfl) ?_
    refine Qc ?_
    refine QV ?_
    refine Qb rfl ?_
    refine JT (.pure 0 (.pure 1 (.pure 2 (.pure 3 (.pure 4 (.pure 5 (.pure 6 (.pure 7 (.pure 8 (.pure 9 (.pure 10 (.pure 11 .done)))))))))))) (by kernel_rfl) ?_
    refine Ja rfl rfl (Jx rfl) ?_
    refine Ja rfl rfl (V3 rfl rfl) ?_
    refine Ja rfl rfl (Jx rfl) ?_
    refine JK rfl rfl rfl (fun hc=>(Jx rfl)) ?_
    refine JK rfl rfl rfl (fun hc=>(y_nil (gx hc rfl))) ?_
    refine JK rfl rfl rfl (fun hc=>(Jv (gx hc rfl) fo183_4.h)) ?_
    refine JK rfl rfl rfl (fun hc=>(Jh (gx hc rfl) sc3.h (hm.nt 0 rfl) rfl)) ?_
    refine JK rfl rfl rfl (fun hc=>(V3 (gx hc rfl) rfl)) ?_
    refine Ja rfl rfl (y_and rfl rfl rfl) ?_
    refine Ja rfl rfl (Jx rfl) ?_
    refine Ja rfl rfl (J4 rfl) ?_
    refine Ja rfl rfl (J4 rfl) ?_
    refine Qc ?_
    refine QV ?_
    refine HW_ret rfl ?_
    refine toR (fin Je rfl (.tmp rfl (.tmp rfl .nil)) .more ?_)
    rw [hst]
    exact ⟨rfl,.mk hpk9 hj9 hz9 (hm.Jp [0] 1 rfl)⟩
theorem a_run(K:ApK)(A:Pl.Ap)(pk:Int)(j:Nat)(Zj Zd:List (Nat×Blk))(w0:World)(hK:K.ok)(hs:Sid K A)(hO:Jr w0 (ApR K A pk j::(K.F++(Zj++Zd))))(hj:JZ 271 5 K.md (K.f:Int) K.bnd K.kk A.S j Zj)(hz:JV 112 258 5 A.D K.md Zd)(I:Pl.Ap→Prop)(μ:Pl.Ap→Nat)(hrd:A.st=0→Pl.rdB A.D 0 K.oo=K.fl)(hA:I A)(hI:∀ A1,I A1→Sid K A1)(hn:∀ A1,I A1→(A1.step K.f K.N K.bnd K.kk K.cm).1=0→(A1.step K.f K.N K.bnd K.kk K.cm).2.st≠2→I (A1.step K.f K.N K.bnd K.kk K.cm).2∧μ (A1.step K.f K.N K.bnd K.kk K.cm).2<μ A1):C Tryz.prog 112 [.pointer (some ⟨K.ma,0,none⟩)] w0 fun v w'=>∃ A1,I A1∧((A1.step K.f K.N K.bnd K.kk K.cm).1≠0∨(A1.step K.f K.N K.bnd K.kk K.cm).2.st=2)∧v=.agg ⟨[.int .i64 (A1.step K.f K.N K.bnd K.kk K.cm).1,.int .i64 0]⟩∧ApO K (A1.step K.f K.N K.bnd K.kk K.cm).2 pk w0 w' (ApR K A pk j::(K.F++(Zj++Zd))):=by
 refine Vk Tryz.func112 rfl rfl rfl fun κ _ Je Jc=>?_
 have hm:=hO.start
 refine au 2 ?_
 refine aT hm fun m1 w hm=>?_
 refine au 6 ?_
 refine cT rfl rfl rfl (a_verify K A pk j Zj Zd _ hK hs (Jr.right (A:=[_]) hm.Jz) hj hz hrd) fun v w hR=>?_
 obtain ⟨rfl,pk9,Z9,hpk9,hz9,hmc⟩:=hR
 replace hm:=Mem.JQ (A:=[_]) hm hmc
 refine aT hm fun m2 w hm=>?_
 refine st hm 0 fun w hm=>?_
 refine au 6 ?_
 refine Ja rfl rfl (JA (c:=false) (y_ne2 rfl rfl iii46) (by decide)) ?_
 refine au 6 ?_
 refine Jg (ι:=Pl.Ap×Int×List (Nat×Blk)) rfl (ks:=[0,2]) (.cons rfl (.cons rfl .nil)) (fun x=>[]) (fun x w=>Mem w0 w (Mn (reals (ApR K A pk j::(K.F++(Zj++Zd))))) ((m1,.row 46 [.int .i64 0,.int .i64 0])::x.2.2)∧I x.1∧AZ K x.1 x.2.1 x.2.2∧x.2.1≤max pk K.bnd) (fun x=>μ x.1) (A,pk9,Z9) (⟨(hm.Jp [1] 2 rfl),hA,hz9,hpk9⟩) trivial (fun x w hM=>?_)
 obtain ⟨A1,pk1,Z1⟩:=x
 obtain ⟨hm,hI1,hz1,hp1⟩:=hM
 obtain ⟨j1,Zj1,Zd1,hZ1,hj1,hzd1⟩:=hz1
 simp only at hm hI1 hZ1 hj1 hzd1 hp1
 subst hZ1
 refine au 4 ?_
 refine cT rfl rfl rfl (a_step K A1 pk1 j1 Zj1 Zd1 _ hK (hI _ hI1) (Jr.right (A:=[_]) hm.Jz) hj1 hzd1) fun v w hR=>?_
 obtain ⟨rfl,pk2,Z2,hp2,hz2,hmc⟩:=hR
 replace hm:=Mem.JQ (A:=[_]) hm hmc
 refine au 16 ?_
 refine cd (fun hc1=>?_) fun hc1=>?_
 ·
  have ha1:(A1.step K.f K.N K.bnd K.kk K.cm).1≠0∨(A1.step K.f K.N K.bnd K.kk K.cm).2.st=2:=(Decidable.em ((A1.step K.f K.N K.bnd K.kk K.cm).1=0)).elim (fun h9=>.inr (by rw [h9] at hc1; simpa using hc1)) .inl
  refine au 4 ?_
  refine st hm 0 fun w hm=>?_
  refine au 7 ?_
  exact ⟨A1,hI1,ha1,rfl,pk2,Z2,by omega,hz2,(hm.Jp [] 1 rfl)⟩
 ·
  have ha1:(A1.step K.f K.N K.bnd K.kk K.cm).1=0:=by simpa using (LS.1 hc1).2
  have ha2:(A1.step K.f K.N K.bnd K.kk K.cm).2.st≠2:=by have h9:=(LS.1 hc1).1; rw [ha1] at h9; simpa using h9
  refine au 2 ?_
  have hn1:=hn A1 hI1 ha1 ha2
  exact next ((A1.step K.f K.N K.bnd K.kk K.cm).2,_,_) hn1.2 ⟨(hm.Jp [0] 1 rfl),hn1.1,hz2,by simp only; omega⟩ ⟨rfl,rfl,trivial⟩
structure NwOk(b oo nn:Int)(fl:List UInt8)(cm:List Pl.Cm):Prop where
 few:cm.length≤20
 ol:oo=fl.length
 vd:Pl.VD oo nn cm
 sf:Pl.Safe cm
 on:0≤oo∧oo≤1000000∧0≤nn∧nn≤1000000
 fw:Pl.ZF b cm
 mx:Pl.first b cm cm.length≤1000000000
 bn:1≤b∧b≤65536
 ck:∀ p∈Pl.steps b 0 cm,0≤p.2.to∧(p.2.k=1→0≤p.2.fr∧0≤p.2.ln∧p.2.fr+p.2.ln≤oo∧p.2.to+p.2.ln≤nn∧p.2.ln≤b)∧(p.2.k≠1→p.2.to+p.2.bs.length≤nn∧(p.2.bs.length:Int)≤b)
 tot:(Pl.total 0 (Pl.targets cm)).isSome=true
theorem ApK.ok_of{K:ApK}{gs gf gb gl:Nat}{bs bf bb bl:Blk}(hN:NwOk K.bnd K.oo K.nn K.fl K.cm)(hx:K.xs.map CmdV.cm=K.cm)(n0:K.N≠0)(k64:0≤K.kk∧K.kk≤18446744073709551615)
 (hs:(gs,bs)∈K.F) (ha:Acc 60 5 K.q K.cs.length K.cq (K.cs.flatMap JM) gs bs) (hB:∀ y∈K.cs,Held K.F 5 y.d) (hp:(K.mp,.row 286 (plV K.bnd K.pf (J2 K.bnd (K.xs.map CmdV.cm)).length K.cf K.pb K.cb K.pl K.xs.length K.cl))∈K.F)
 (hf:(gf,bf)∈K.F) (haf:Acc 3 1 K.pf (J2 K.bnd (K.xs.map CmdV.cm)).length K.cf ((J2 K.bnd (K.xs.map CmdV.cm)).flatMap Go.Cx.encI) gf bf) (hb:(gb,bb)∈K.F) (hab:Acc 3 1 K.pb (J2 K.bnd (K.xs.map CmdV.cm)).length K.cb ((beforeL (K.xs.map CmdV.cm)).flatMap Go.Cx.encI) gb bb)
 (hl:(gl,bl)∈K.F) (hal:Acc 60 5 K.pl K.xs.length K.cl (K.xs.flatMap JM) gl bl) (hX:∀ y∈K.xs,Held K.F 5 y.d):K.ok where
 dl:=fun w hZ=>⟨ha.rdO hZ hs,fun c hc=>Ya hZ.start (hB c hc) (fun _ h=>h) (hN.vd.one c.cm (Ln.2 ⟨c,hc,rfl⟩))⟩
 pl:=fun w hZ=>⟨hZ.1 _ hp rfl,haf.rdO hZ hf,hab.rdO hZ hb,hal.rdO hZ hl,fun x h9=>⟨(hX x h9).okN hZ.start (fun _ h=>h),V5 (o:=K.oo) (n:=K.nn) (by rw [hx]; exact hN.vd) (by have:=hN.on; omega) x h9⟩⟩
 xc:=hx
 few:=by have:=hN.few; unfold ApK.cm at this; rw [Lj] at this; exact this
 ol:=hN.ol
 vd:=hN.vd
 on:=hN.on
 fw:=by rw [hx]; exact hN.fw
 mx:=by rw [hx]; exact ⟨by have:=hN.few; omega,hN.mx⟩
 bn:=hN.bn
 n0:=n0
 k64:=k64
 ck:=hN.ck
end Go.Proofs.YtaehgpeenaomcaaGreat
namespace Go.Pl
open Go Go.Cx Go.Proofs.YtaehgpeenaomcaaGreat
def VL(D:Pl.Dv)(S:Pl.Jn)(n:Int):Pl.Ap:=if S.has=false then ⟨D,S,0,0,false⟩ else ⟨D,S,if (Pl.jla S).cu=n then 2 else 1,(Pl.jla S).cu,true⟩
def mtch0(b:Int)(cs:List Pl.Cm)(r:Pl.Rc):Prop:=(0≤r.cu∧r.cu<Pl.JF b cs)∧r.of=(Pl.JB b cs r.cu.toNat).to∧(r.bs.length:Int)=Pl.clen (Pl.JB b cs r.cu.toNat)
end Go.Pl
namespace Go.Proofs.YtaehgpeenaomcaaGreat
open Go Go.Cx
theorem bl6{b oo nn:Int}{fl:List UInt8}{cs:List CmdV}(hN:NwOk b oo nn fl (cs.map CmdV.cm)):∀ c∈cs,c.d.bs.length≤1000000:=by
 intro c hc
 have h1:=Pl.Jw (hN.vd.one c.cm (Ln.2 ⟨c,hc,rfl⟩))
 have h2:=Pl.Jl h1.1
 have hon:=hN.on
 show c.cm.bs.length≤1000000
 rcases h2.1 with h | h
 · rw [h.2.2.1]; simp
 · omega
theorem apF{w0 w:World}{X:Bs}{A M Z B1 B2:List (Nat×Blk)}(h:Mem w0 w X ((A++M)++((Z++B1)++B2))):Mem w0 w X (A++((M++(B1++B2))++Z)):=by
 refine h.perm ?_
 rw [Lp]
 refine List.Perm.append_left _ ?_
 rw [Lp,Lp]
 refine List.Perm.append_left _ ?_
 exact List.perm_append_comm
theorem a_match1(K:ApK)(A:Pl.Ap)(pk:Int)(j:Nat)(w0:World)(hK:K.ok)(hr:w0.heap[K.ma]?=some (Blk.row 183 (apV K.md K.bnd pk (dlV K.oo K.nn K.H K.q K.cs.length K.cq) K.mp j A.st A.nx A.sg)).Jd)(hF:Jr w0 K.F)(r:Pl.Rc)(p:Option Addr)(cap:Nat)(hm1:0≤r.cu∧r.cu<Pl.JF K.bnd K.cm)(hm2:r.of=(Pl.JB K.bnd K.cm r.cu.toNat).to)(hm3:(r.bs.length:Int)=Pl.clen (Pl.JB K.bnd K.cm r.cu.toNat)):C Tryz.prog 148 [.pointer (some ⟨K.ma,0,none⟩),.agg ⟨rcV r p r.bs.length cap⟩] w0 fun v w'=>v=.bool true∧Ext No w0 w':=by
 have hmx:=hK.mx
 have hlen:Pl.first K.bnd (K.xs.map CmdV.cm) (K.xs.map CmdV.cm).length=Pl.JF K.bnd K.cm:=by rw [hK.xc]; rfl
 have hn0:0≤Pl.JF K.bnd K.cm:=by rw [← hlen]; exact Pl.VG _ hK.fw
 refine C_o Tryz.func148 fun κ _ Je Jc hm=>?_
 refine au 2 ?_
 refine bT hm fun rb w hm=>?_
 refine au 3 ?_
 refine Xc (ι:=Nat×Int×Option Addr×Nat) rfl (ks:=[0,3,4]) (.cons rfl (.cons rfl (.cons rfl .nil))) (fun x=>[(5,.pointer (some ⟨x.1,0,none⟩)),(6,.bool true)]) (fun x w=>Mem w0 w No [(x.1,.row 289 (.int .i64 r.cu::.int .i64 x.2.1::cmV (Pl.JB K.bnd K.cm r.cu.toNat) x.2.2.1 (Pl.JB K.bnd K.cm r.cu.toNat).bs.length x.2.2.2)),(rb,.row 225 (rcV r p r.bs.length cap))]) ?_ (fun x w hM=>?_)
 ·
  refine JS (.pure 0 (.pure 1 (.pure 2 (.pure 3 (.pure 4 (.pure 5 (.act2 6 (.pure 7 (.pure 8 (.pure 9 (.act 10 (.cut (.act 11 (.pure 12 .done))))))) 10 (.act 6 (.pure 7 (.pure 8 (.pure 9 (.cut (.act 11 (.pure 12 .done)))))))))))))) No mix (by kernel_rfl) hm fun w hw hm0 hh=>?_
  have hm:=hm0
  refine au 6 ?_
  refine QN ?_ ?_
  ·
   refine ca rfl rfl rfl (p_at r.cu K.mp K.bnd K.pf K.cf K.pb K.cb K.pl K.cl K.xs _ (hK.pl _ (hF.ext hm.to)).1 (hK.pl _ (hF.ext hm.to)).2.1 (hK.pl _ (hF.ext hm.to)).2.2.1 (hK.pl _ (hF.ext hm.to)).2.2.2.1 hK.fw (by omega) (hK.pl _ (hF.ext hm.to)).2.2.2.2 (by have:=hK.bn; simp only [Pl.I64]; omega) (by simp only [Pl.I64]; omega)) fun v w hR=>?_
   obtain ⟨ix,kx,d,p_u,n_u,cap_u,g_u,b_u,rfl,ha_u,hmc,hin,hout⟩:=hR
   obtain rfl:=ha_u.J0
   refine ⟨hh.ext hmc.to,?_⟩
   replace hh:=hh.ext hmc.to
   replace hm:=hm.Jt hmc
   obtain ⟨rfl,hk9,hst⟩:=hin (by rw [hlen]; exact hm1)
   have hd:Pl.JB K.bnd K.cm r.cu.toNat=d:=by unfold Pl.JB; rw [← hK.xc,hst]; rfl
   refine au 2 ?_
   refine Ja rfl rfl (JA (c:=true) (J7 rfl rfl) (LQ (by rw [hlen]; exact hm1))) ?_
   refine al hm hh fun st w hg_st hm hh=>?_
   refine au 1 ?_
   refine Vi rfl rfl rfl rfl sz289 rfl hm 0 rfl rfl fun w hm=>?_
   refine au 2 ?_
   exact Qt (st,kx,p_u,cap_u) (by simp only; rw [hd]; exact (hm.pick [0,2] rfl)) ⟨rfl,rfl,rfl,rfl,rfl,trivial⟩
  ·
   refine al hm hh fun st w hg_st hm hh=>?_
   refine ca rfl rfl rfl (p_at r.cu K.mp K.bnd K.pf K.cf K.pb K.cb K.pl K.cl K.xs _ (hK.pl _ (hF.ext hm.to)).1 (hK.pl _ (hF.ext hm.to)).2.1 (hK.pl _ (hF.ext hm.to)).2.2.1 (hK.pl _ (hF.ext hm.to)).2.2.2.1 hK.fw (by omega) (hK.pl _ (hF.ext hm.to)).2.2.2.2 (by have:=hK.bn; simp only [Pl.I64]; omega) (by simp only [Pl.I64]; omega)) fun v w hR=>?_
   obtain ⟨ix,kx,d,p_u,n_u,cap_u,g_u,b_u,rfl,ha_u,hmc,hin,hout⟩:=hR
   obtain rfl:=ha_u.J0
   refine ⟨hh.ext hmc.to,?_⟩
   replace hh:=hh.ext hmc.to
   replace hm:=hm.Jt hmc
   obtain ⟨rfl,hk9,hst⟩:=hin (by rw [hlen]; exact hm1)
   have hd:Pl.JB K.bnd K.cm r.cu.toNat=d:=by unfold Pl.JB; rw [← hK.xc,hst]; rfl
   refine au 2 ?_
   refine Ja rfl rfl (JA (c:=true) (J7 rfl rfl) (LQ (by rw [hlen]; exact hm1))) ?_
   refine au 1 ?_
   refine Vi rfl rfl rfl rfl sz289 rfl hm 1 rfl rfl fun w hm=>?_
   refine au 2 ?_
   exact Qt (st,kx,p_u,cap_u) (by simp only; rw [hd]; exact (hm.pick [1,2] rfl)) ⟨rfl,rfl,rfl,rfl,rfl,trivial⟩
 ·
  obtain ⟨st,kx,p_u,cap_u⟩:=x
  have hm:=hM
  simp only at hm
  generalize hd:(Pl.JB K.bnd K.cm r.cu.toNat)=d at *
  refine au 4 ?_
  refine cA rfl rfl rfl (Vd d p_u cap_u _) hm fun w hm=>?_
  refine aT hm fun tg w hm=>?_
  refine Vi rfl rfl rfl rfl sz32 rfl hm 0 rfl rfl fun w hm=>?_
  refine au 13 ?_
  refine dw [0,3,6,9,12,15,19,21,24,27,30,33,36,39,42,45,48,51,54] hm fun w hw hm0 hh hm=>?_
  refine au 6 ?_
  refine cB rfl rfl rfl (C.as (v:=.int .i64 (Pl.JF K.bnd K.cm)) (p_len K.mp K.bnd K.pf K.cf K.pb K.cb K.pl K.cl K.xs _ (hK.pl _ (hF.ext hm.to)).1 (hK.pl _ (hF.ext hm.to)).2.1 (hK.pl _ (hF.ext hm.to)).2.2.1 (hK.pl _ (hF.ext hm.to)).2.2.2.1 hK.fw (by omega)) (by rw [hlen])) hm hh fun w hm hh=>?_
  refine Ja rfl rfl (JA (c:=true) (y_le rfl rfl) (LQ (by omega))) ?_
  refine au 8 ?_
  refine Ja rfl rfl (JA (c:=true) (y_eq2 rfl rfl iii32) (LQ ⟨hm2.symm,hm3.symm⟩)) ?_
  refine au 6 ?_
  exact ⟨rfl,hm.to⟩
theorem a_new(D:Pl.Dv)(md:Nat)(Z:List (Nat×Blk))(bnd oo nn:Int)(fl:List UInt8)(q:Option Addr)(cq:Nat)(cs:List CmdV)(f N:Nat)(kid:Int)(S:Pl.Jn)(H:Nat→UInt8)(w0:World)(hHH:(Pl.hh (Pl.sha fl) (Pl.sha (Pl.apl fl (cs.map CmdV.cm) nn.toNat)))=H)(hkid:Pl.fid (Pl.fenc oo nn H (cs.map CmdV.cm))=kid)(hS:Pl.jopen D f N kid=S)(hZ:Jr w0 Z)(hz:JV 112 258 5 D md Z)(hN:NwOk bnd oo nn fl (cs.map CmdV.cm))(hq:Rd w0 q (cs.flatMap JM))(hok:∀ c∈cs,Q1 w0 c)(hle:Pl.X7 D.sz bnd oo nn=0)(hf:Pl.layF D.sz oo nn=(f:Int))(hsl:Pl.slot D.sz bnd=(N:Int))(h0:N≠0)(h2:f+2*N≤D.cnt)(hdn:D.dn=false)(hk64:0≤kid∧kid≤18446744073709551615)(hfe:(Pl.fenc oo nn H (cs.map CmdV.cm)).length≤1000000000000)(hla:S.la.bs.length≤1000000)(hmt:S.has=true→Pl.mtch0 bnd (cs.map CmdV.cm) (Pl.jla S)):C Tryz.prog 109 [.pointer (some ⟨md,0,none⟩),.int .i64 bnd,.agg ⟨dlV oo nn H q cs.length cq⟩] w0 fun v w'=>∃ K:ApK,K.ok∧(K.md=md∧K.f=f∧K.N=N∧K.kk=kid∧K.bnd=bnd∧K.oo=oo∧K.nn=nn∧K.fl=fl∧K.cm=cs.map CmdV.cm)∧∃ j Zj,v=.tuple ⟨[.pointer (some ⟨K.ma,0,none⟩),.agg ⟨[.int .i64 0,.int .i64 0]⟩]⟩∧JZ 271 5 md (f:Int) bnd kid S j Zj∧Mem w0 w' No (ApR K (Pl.VL D S (Pl.JF bnd (cs.map CmdV.cm))) 0 j::(K.F++Zj)):=by
 have hok9:=hz.ok
 have hsz:=hok9.sz
 have hmx:=hok9.max
 have hon:=hN.on
 have hbn:=hN.bn
 have hcl:D.cnt≤D.cnt*D.sz:=Lu _ hsz
 have hzl:D.sz≤D.cnt*D.sz:=L1 _ (by omega)
 have hl:cs.length≤20:=by have:=hN.few; rw [Lj] at this; exact this
 have hck:∀ c∈cs,Pl.ccheck c.cm=0:=fun c hc=>(Pl.Jw (hN.vd.one c.cm (Ln.2 ⟨c,hc,rfl⟩))).1
 have hbl:∀ c∈cs,c.d.bs.length≤140737488355328:=V5 hN.vd (by omega)
 have hbl6:=bl6 hN
 have hlv:layV D.sz bnd oo nn=[.int .i64 (D.sz:Int),.int .i64 bnd,.int .i64 0,.int .i64 (max oo nn),.int .i64 (f:Int),.int .i64 (2*(N:Int)),.int .i64 ((f:Int)+2*N)]:=by unfold layV; rw [hle,hf,hsl]; rfl
 refine C_o Tryz.func109 fun κ _ Je Jc hm=>?_
 refine au 2 ?_
 refine bT hm fun bx w hm=>?_
 refine au 1 ?_
 refine aT hm fun m7 w hm=>?_
 refine au 15 ?_
 refine Ja rfl rfl (Jm (s:=67) (vs:=dlV oo nn H _ cs.length cq) rfl ag26.h (hm.nt 1 rfl) rfl) ?_
 refine cA rfl rfl rfl (dl_check oo nn _ q cq cs _ (hq.Jj hm.to) hl (fun c hc=>Q1.mono (hok c hc) hm.to) hbl hN.vd) hm fun w hm=>?_
 refine aT hm fun m8 w hm=>?_
 refine st hm 0 fun w hm=>?_
 refine au 6 ?_
 refine Ja rfl rfl (JA (c:=false) (y_ne2 rfl rfl iii46) (by decide)) ?_
 refine au 10 ?_
 refine cA rfl rfl rfl (s_check q cq cs _ (hq.Jj hm.to) (by omega) hck (safe_hsf hN.sf)) hm fun w hm=>?_
 refine aT hm fun m9 w hm=>?_
 refine st hm 0 fun w hm=>?_
 refine au 6 ?_
 refine Ja rfl rfl (JA (c:=false) (y_ne2 rfl rfl iii46) (by decide)) ?_
 refine au 5 ?_
 refine Xc (ι:=Nat) rfl (ks:=[0,1,5,6,7]) (.cons rfl (.cons rfl (.cons rfl (.cons rfl (.cons rfl .nil))))) (fun m10=>[(10,.pointer (some ⟨m10,0,none⟩)),(11,.int .i64 0)]) (fun m10 w=>Mem w0 w No [(m10,.row 34 [.int .i64 (D.sz:Int),.int .i64 bnd,.int .i64 0,.int .i64 (max oo nn),.int .i64 (f:Int),.int .i64 (2*(N:Int)),.int .i64 ((f:Int)+2*N)]),(m7,.row 46 [.int .i64 0,.int .i64 0]),(bx,.row 26 (dlV oo nn H q cs.length cq))]) ?_ (fun m10 w hM=>?_)
 ·
  refine JS (.pure 0 (.pure 2 (.pure 3 (.act2 1 (.act2 4 (.pure 5 (.pure 6 (.pure 7 (.act 8 (.cut (.act 9 (.pure 10 .done))))))) 8 (.act 4 (.pure 5 (.pure 6 (.pure 7 (.cut (.act 9 (.pure 10 .done)))))))) 8 (.act 1 (.act 4 (.pure 5 (.pure 6 (.pure 7 (.cut (.act 9 (.pure 10 .done)))))))))))) No mix (by kernel_rfl) hm fun w hw hm0 hh=>?_
  have hm:=hm0
  refine au 2 ?_
  refine Ja rfl rfl (Jm (s:=67) (vs:=dlV oo nn H _ cs.length cq) rfl ag26.h (hm0.nd 3 rfl id) rfl) ?_
  refine QN ?_ ?_
  ·
   refine cB rfl rfl rfl (Xt D md Z _ (hZ.ext hm.to) hz) hm hh fun w hm hh=>?_
   refine QN ?_ ?_
   ·
    refine cB rfl rfl rfl (y_of (D.sz:Int) bnd oo nn _ _ (by simp only [Pl.I64]; omega) (by simp only [Pl.I64]; omega) (by simp only [Pl.I64]; omega) (by simp only [Pl.I64]; omega)) hm hh fun w hm hh=>?_
    refine au 1 ?_
    refine Ja rfl rfl (y_v (J7 rfl rfl) (LM (fun x=>Value.agg ⟨x⟩) hlv)) ?_
    refine Ja rfl rfl (y_v (J7 rfl rfl) (LM (Value.int .i64) hle)) ?_
    refine al hm hh fun m10 w hg_m10 hm hh=>?_
    refine au 1 ?_
    refine st hm 0 fun w hm=>?_
    refine au 2 ?_
    exact Qt _ (hm.pick [0,3,4] rfl) ⟨rfl,rfl,rfl,rfl,rfl,rfl,rfl,trivial⟩
   ·
    refine al hm hh fun m10 w hg_m10 hm hh=>?_
    refine cB rfl rfl rfl (y_of (D.sz:Int) bnd oo nn _ _ (by simp only [Pl.I64]; omega) (by simp only [Pl.I64]; omega) (by simp only [Pl.I64]; omega) (by simp only [Pl.I64]; omega)) hm hh fun w hm hh=>?_
    refine au 1 ?_
    refine Ja rfl rfl (y_v (J7 rfl rfl) (LM (fun x=>Value.agg ⟨x⟩) hlv)) ?_
    refine Ja rfl rfl (y_v (J7 rfl rfl) (LM (Value.int .i64) hle)) ?_
    refine au 1 ?_
    refine st hm 0 fun w hm=>?_
    refine au 2 ?_
    exact Qt _ (hm.pick [0,3,4] rfl) ⟨rfl,rfl,rfl,rfl,rfl,rfl,rfl,trivial⟩
  ·
   refine al hm hh fun m10 w hg_m10 hm hh=>?_
   refine cB rfl rfl rfl (Xt D md Z _ (hZ.ext hm.to) hz) hm hh fun w hm hh=>?_
   refine cB rfl rfl rfl (y_of (D.sz:Int) bnd oo nn _ _ (by simp only [Pl.I64]; omega) (by simp only [Pl.I64]; omega) (by simp only [Pl.I64]; omega) (by simp only [Pl.I64]; omega)) hm hh fun w hm hh=>?_
   refine au 1 ?_
   refine Ja rfl rfl (y_v (J7 rfl rfl) (LM (fun x=>Value.agg ⟨x⟩) hlv)) ?_
   refine Ja rfl rfl (y_v (J7 rfl rfl) (LM (Value.int .i64) hle)) ?_
   refine au 1 ?_
   refine st hm 0 fun w hm=>?_
   refine au 2 ?_
   exact Qt _ (hm.pick [0,3,4] rfl) ⟨rfl,rfl,rfl,rfl,rfl,rfl,rfl,trivial⟩
 ·
  have hm:=hM
  refine au 4 ?_
  refine Ja rfl rfl (JA (c:=true) (V3 rfl rfl) (by decide)) ?_
  refine au 6 ?_
  refine cA rfl rfl rfl (y_check D md Z _ (hZ.ext hm.to) hz _ _ _ _ _ _ (by omega)) hm fun w hm=>?_
  refine au 7 ?_
  refine Ja rfl rfl (JA (c:=false) (XD rfl rfl) (by decide)) ?_
  refine au 7 ?_
  refine Ja rfl rfl (Jm (s:=67) (vs:=dlV oo nn H _ cs.length cq) rfl ag26.h (hm.nt 2 rfl) rfl) ?_
  refine cT rfl rfl rfl (f_encode oo nn _ q cq cs _ (hq.Jj hm.to) (by omega) (fun c hc=>Q1.mono (hok c hc) hm.to) hbl6 (by simp only [Pl.okN]; omega) (by simp only [Pl.okN]; omega) hck) fun v w hR=>?_
  obtain ⟨p_e,n_e,cap_e,g_e,b_e,rfl,ha_e,hmc⟩:=hR
  obtain rfl:=ha_e.J0
  replace hm:=hm.Jt hmc
  refine au 8 ?_
  refine dw [0,3,6,9,12,15,19,22,25,27,30,33,36,39] hm fun w hw hm0 hh hm=>?_
  refine au 6 ?_
  refine Jb (l:=[_]) rfl rfl sl88.h z22.h rfl rfl rfl rfl rfl rfl rfl hm hh fun m15 w hg_m15 hm hh=>?_
  refine cB rfl rfl rfl (C.as (v:=.int .u64 kid) (f_id _ 1 p_e cap_e (Pl.fenc oo nn H (cs.map CmdV.cm)) _ (Rd.JL (hm.get (k:=0) rfl)) (ha_e.rd hm 1 rfl) hfe) (by rw [hkid])) hm hh fun w hm hh=>?_
  refine ca rfl rfl rfl (j_open D md Z _ (hZ.ext hm.to) hz f N bnd (by simp only [Pl.I64]; omega) hsl h0 h2 kid hdn) fun v w hR=>?_
  obtain ⟨j,Zj,rfl,hj,hmc⟩:=hR
  rw [hS] at hj
  refine ⟨hh.ext hmc.to,?_⟩
  replace hh:=hh.ext hmc.to
  replace hm:=Mem.XR hm hmc
  refine au 11 ?_
  refine Ja rfl rfl (JA (c:=false) (XD rfl rfl) (by decide)) ?_
  refine au 5 ?_
  refine Xc (ι:=ApK) rfl (ks:=[0,1,5,6,7,14]) (.cons rfl (.cons rfl (.cons rfl (.cons rfl (.cons rfl (.cons rfl .nil)))))) (fun x=>[(15,.pointer (some ⟨x.ma,0,none⟩))]) (fun x w=>x.ok∧(x.md=md∧x.f=f∧x.N=N∧x.kk=kid∧x.bnd=bnd∧x.oo=oo∧x.nn=nn∧x.fl=fl∧x.cm=cs.map CmdV.cm)∧Mem w0 w No (ApR x ⟨D,S,0,0,false⟩ 0 j::(m7,.row 46 [.int .i64 0,.int .i64 0])::(x.F++Zj))) ?_ (fun x w hM=>?_)
  ·
   refine dw [0,3,6,9,12,15,21,24,27,33,19,31,2,36,40,42] hm fun w hw hm0 hh hm=>?_
   refine au 2 ?_
   refine Ja rfl rfl (Qe (cs:=[_,_,_]) z179.h ft179.h rfl rfl rfl rfl rfl) ?_
   refine Ja rfl rfl (Jm (s:=67) (vs:=dlV oo nn H _ cs.length cq) rfl ag26.h (hm0.nd 4 rfl id) rfl) ?_
   refine au 6 ?_
   refine ca rfl rfl rfl (d_with oo nn _ q cs.length cq q cq cs _ (hq.Jj hm.to) (fun c hc=>Q1.mono (hok c hc) hm.to) (by omega) hbl) fun v w hR=>?_
   obtain ⟨xs_s,p_s,n_s,cap_s,g_s,b_s,B_s,rfl,ha_s,hx_s,hh_s,hmc⟩:=hR
   refine ⟨hh.ext hmc.to,?_⟩
   replace hh:=hh.ext hmc.to
   replace hm:=hm.VZ hmc
   obtain rfl:=ha_s.QB Jf (by decide)
   refine ca rfl rfl rfl (p_new bnd q cq cs _ (hq.Jj hm.to) (fun c hc=>⟨hck c hc,(Q1.mono (hok c hc) hm.to).2.2.2.2,hbl c hc⟩) ⟨by simp only [Pl.I64]; omega,hbn.1⟩ hN.fw ⟨by omega,by have:=hN.mx; omega⟩) fun v w hR=>?_
   rcases hR with ⟨-,h9,-⟩ | ⟨mp,pf,pb,pl,cf,cb,cl,gf,gb,gl,bf,bb,bl,xs,B_p,rfl,-,haf,hab,hal,hxc,hB_p,hmc⟩
   · rw [hN.tot] at h9; cases h9
   rw [← hxc] at haf hab hmc
   refine ⟨hh.ext hmc.to,?_⟩
   replace hh:=hh.ext hmc.to
   replace hm:=hm.callT (N1:=[_,_,_,_]) (N2:=B_p) hmc
   refine au 1 ?_
   refine Ja rfl rfl (y_buildK (cs:=apV md bnd 0 (dlV oo nn H p_s xs_s.length cap_s) mp j 0 0 false) z183.h ft183.h rfl rfl rfl (by kernel_rfl) (by kernel_rfl)) ?_
   refine bT hm fun ma w hm=>?_
   refine au 2 ?_
   have hm9:=apF (A:=[_,_]) (M:=[_,_,_,_,_]) (Z:=Zj) (B1:=B_s) (B2:=B_p) (hm.Jp [0,9,5,1,2,3,4] 11 rfl)
   refine Qt (⟨md,ma,mp,f,N,kid,bnd,oo,nn,fl,p_s,cap_s,xs_s,pf,pb,pl,cf,cb,cl,xs,((g_s,b_s)::(mp,.row 286 (plV bnd pf (J2 bnd (xs.map CmdV.cm)).length cf pb cb pl xs.length cl))::(gf,bf)::(gb,bb)::(gl,bl)::[])++(B_s++B_p)⟩:ApK) ⟨?_,⟨rfl,rfl,rfl,rfl,rfl,rfl,rfl,rfl,hx_s⟩,?_⟩ ⟨rfl,rfl,rfl,rfl,rfl,rfl,rfl,trivial⟩
   · refine ApK.ok_of (gs:=g_s) (gf:=gf) (gb:=gb) (gl:=gl) (bs:=b_s) (bf:=bf) (bb:=bb) (bl:=bl) ?_ (hxc.trans hx_s.symm) h0 hk64 (Lw _ (.head _)) ha_s (fun y hy=>(hh_s y hy).mono fun e he=>Ly _ (Lw _ he)) (Lw _ (.tail _ (.head _))) (Lw _ (.tail _ (.tail _ (.head _)))) haf (Lw _ (.tail _ (.tail _ (.tail _ (.head _))))) hab (Lw _ (.tail _ (.tail _ (.tail _ (.tail _ (.head _)))))) hal (fun y hy=>(hB_p y hy).mono fun e he=>Ly _ (Ly _ he))
     show NwOk bnd oo nn fl (xs_s.map CmdV.cm)
     rw [hx_s]; exact hN
   · have hH:ApK.H ⟨md,ma,mp,f,N,kid,bnd,oo,nn,fl,p_s,cap_s,xs_s,pf,pb,pl,cf,cb,cl,xs,((g_s,b_s)::(mp,.row 286 (plV bnd pf (J2 bnd (xs.map CmdV.cm)).length cf pb cb pl xs.length cl))::(gf,bf)::(gb,bb)::(gl,bl)::[])++(B_s++B_p)⟩=H:=by unfold ApK.H ApK.nw ApK.cm; simp only; rw [hx_s,hHH]
     unfold ApR; rw [hH]; exact hm9
  ·
   obtain ⟨hK,hkk,hm⟩:=hM
   have hkk0:=hkk
   obtain ⟨k1,k2,k3,k4,k5,k6,k7,k8,k9⟩:=hkk0
   have hlen:Pl.first x.bnd (x.xs.map CmdV.cm) (x.xs.map CmdV.cm).length=Pl.JF bnd (cs.map CmdV.cm):=by rw [hK.xc,k9,k5]; rfl
   have hxm:=hK.mx
   refine au 3 ?_
   refine cT rfl rfl rfl (j_last md f bnd kid S j Zj _ (ownJ (A:=[_,_]) hm.Jz) hj (by omega)) fun v w hR=>?_
   obtain ⟨p_l,cap_l,g_l,b_l,rfl,ha_l,hmc⟩:=hR
   replace hm:=hm.Jt hmc
   refine au 3 ?_
   refine aT hm fun lr w hm=>?_
   refine st hm 0 fun w hm=>?_
   refine au 10 ?_
   refine cd (fun hc6=>?_) fun hc6=>?_
   ·
    simp only [bE] at hc6
    refine au 5 ?_
    refine st hm 3 fun w hm=>?_
    refine au 4 ?_
    refine toR (fin Je rfl (.tmp rfl (.cell rfl (Ju (vs:=[_,_]) ag46.h (hm.get (k:=3) rfl) rfl) .nil)) .more ?_)
    exact ⟨x,hK,hkk,j,Zj,rfl,hj,by rw [show Pl.VL D S (Pl.JF bnd (cs.map CmdV.cm))=⟨D,S,0,0,false⟩ by unfold Pl.VL; rw [LI hc6]]; exact (hm.Jp [2] 4 rfl)⟩
   ·
    simp only [bF] at hc6
    have hc9:=hmt hc6
    simp only [Pl.mtch0] at hc9
    rw [← k5,← k9] at hc9
    refine au 7 ?_
    refine cA rfl rfl rfl (a_match1 x ⟨D,S,0,0,false⟩ 0 j _ hK (hm.get (k:=2) rfl) (Xs (A:=[_,_,_,_]) hm.Jz) (Pl.jla S) p_l cap_l hc9.1 hc9.2.1 hc9.2.2) hm fun w hm=>?_
    refine au 6 ?_
    refine Xc (ι:=Unit) rfl (ks:=[6,7,15,16]) (.cons rfl (.cons rfl (.cons rfl (.cons rfl .nil)))) (fun u9=>[]) (fun u9 w=>Mem w0 w No (ApR x ⟨D,S,1,(Pl.jla S).cu,true⟩ 0 j::(m7,.row 46 [.int .i64 0,.int .i64 0])::(x.F++Zj))) ?_ (fun u9 w hM=>?_)
    ·
     refine JS (.pure 0 (.pure 1 (.pure 2 (.pure 3 (.pure 4 (.pure 5 (.pure 6 (.act 7 (.pure 8 (.pure 9 (.act 10 (.pure 11 (.pure 12 (.act 13 .done)))))))))))))) (fun j=>j=x.ma) mix (by kernel_rfl) hm fun w hw hm0 hh=>?_
     have hm:=hm0
     refine au 4 ?_
     refine Ja rfl rfl (Jh rfl sc3.h (hm0.nd 0 rfl (hm0.ne 0 2 rfl rfl rfl rfl rfl)) rfl) ?_
     refine au 2 ?_
     refine QO rfl rfl rfl rfl sz3 rfl hm 2 rfl rfl hh (.inr rfl) fun w hm hh=>?_
     refine au 2 ?_
     refine QO rfl rfl rfl rfl sz3 rfl hm 2 rfl rfl hh (.inr rfl) fun w hm hh=>?_
     refine au 2 ?_
     refine QO rfl rfl rfl rfl sz4 rfl hm 2 rfl rfl hh (.inr rfl) fun w hm hh=>?_
     refine au 1 ?_
     exact Qt () (hm.Jp [2,3] 4 rfl) ⟨rfl,rfl,rfl,rfl,trivial⟩
    ·
     have hm:=hM
     refine au 2 ?_
     refine dw [0,3,6,9,12,15,18,21,25,27] hm fun w hw hm0 hh hm=>?_
     refine au 8 ?_
     refine cB rfl rfl rfl (C.as (v:=.int .i64 (Pl.JF bnd (cs.map CmdV.cm))) (p_len x.mp x.bnd x.pf x.cf x.pb x.cb x.pl x.cl x.xs _ (hK.pl _ (Xs (A:=[_,_]) hm.Jz)).1 (hK.pl _ (Xs (A:=[_,_]) hm.Jz)).2.1 (hK.pl _ (Xs (A:=[_,_]) hm.Jz)).2.2.1 (hK.pl _ (Xs (A:=[_,_]) hm.Jz)).2.2.2.1 hK.fw (by omega)) (by rw [hlen])) hm hh fun w hm hh=>?_
     refine au 3 ?_
     refine cd (fun hc8=>?_) fun hc8=>?_
     ·
      simp only [dT] at hc8
      have hA:Pl.VL D S (Pl.JF bnd (cs.map CmdV.cm))=⟨D,S,2,(Pl.jla S).cu,true⟩:=by unfold Pl.VL; rw [LH (by rw [hc6]; decide),LI hc8]
      refine au 4 ?_
      refine st hm 0 fun w hm=>?_
      refine au 7 ?_
      refine st hm 1 fun w hm=>?_
      refine au 3 ?_
      refine toR (fin Je rfl (.tmp rfl (.cell rfl (Ju (vs:=[_,_]) ag46.h (hm.get (k:=1) rfl) rfl) .nil)) .more ?_)
      exact ⟨x,hK,hkk,j,Zj,rfl,hj,by rw [hA]; exact (hm.Jp [0] 2 rfl)⟩
     ·
      simp only [dF] at hc8
      have hA:Pl.VL D S (Pl.JF bnd (cs.map CmdV.cm))=⟨D,S,1,(Pl.jla S).cu,true⟩:=by unfold Pl.VL; rw [LH (by rw [hc6]; decide),LH hc8]
      refine au 7 ?_
      refine st hm 1 fun w hm=>?_
      refine au 3 ?_
      refine toR (fin Je rfl (.tmp rfl (.cell rfl (Ju (vs:=[_,_]) ag46.h (hm.get (k:=1) rfl) rfl) .nil)) .more ?_)
      exact ⟨x,hK,hkk,j,Zj,rfl,hj,by rw [hA]; exact (hm.Jp [0] 2 rfl)⟩
end Go.Proofs.YtaehgpeenaomcaaGreat
namespace Go.Pl
open Go Go.Cx Go.Proofs.YtaehgpeenaomcaaGreat
inductive RunTo(st:Pl.Ap→Int×Pl.Ap)(Q:Pl.Ap→Prop):Nat→Pl.Ap→Int→Pl.Ap→Prop
 | stop {A:Pl.Ap}:Q A→((st A).1≠0∨(st A).2.st=2)→RunTo st Q 0 A (st A).1 (st A).2
 | next {n:Nat} {A B:Pl.Ap} {c:Int}:Q A→(st A).1=0→(st A).2.st≠2→RunTo st Q n (st A).2 c B→RunTo st Q (n+1) A c B
end Go.Pl
namespace Go.Proofs.YtaehgpeenaomcaaGreat
open Go Go.Cx
theorem runTo_at{st:Pl.Ap→Int×Pl.Ap}{Q:Pl.Ap→Prop}{n:Nat}{A B:Pl.Ap}{c:Int}(h:Pl.RunTo st Q n A c B):Q A:=by cases h <;> assumption
theorem runTo_end{st:Pl.Ap→Int×Pl.Ap}{Q:Pl.Ap→Prop}{n:Nat}{A B:Pl.Ap}{c:Int}(h:Pl.RunTo st Q n A c B)(he:(st A).1≠0∨(st A).2.st=2):c=(st A).1∧B=(st A).2:=by
 cases h with
 | stop h1 h2=>exact ⟨rfl,rfl⟩
 | next h1 h2 h3 h4=>exact (he.elim (fun h=>h h2) fun h=>h3 h).elim
theorem runTo_next{st:Pl.Ap→Int×Pl.Ap}{Q:Pl.Ap→Prop}{n:Nat}{A B:Pl.Ap}{c:Int}(h:Pl.RunTo st Q n A c B)(h1:(st A).1=0)(h2:(st A).2.st≠2):∃ m,n=m+1∧Pl.RunTo st Q m (st A).2 c B:=by
 cases h with
 | stop h3 h4=>exact (h4.elim (fun h=>h h1) fun h=>h2 h).elim
 | next h3 h4 h5 h6=>exact ⟨_,rfl,h6⟩
theorem runTo_uniq{st:Pl.Ap→Int×Pl.Ap}{Q:Pl.Ap→Prop}{c:Int}{B:Pl.Ap}:∀ {n:Nat} {A:Pl.Ap} {m:Nat},Pl.RunTo st Q n A c B→Pl.RunTo st Q m A c B→n=m:=by
 intro n
 induction n with
 | zero=>
  intro A m h1 h2
  cases m with
  | zero=>rfl
  | succ m=>
   cases h1 with
   | stop h3 h4=>
    cases h2 with
    | next h5 h6 h7 h8=>exact (h4.elim (fun h=>h h6) fun h=>h7 h).elim
 | succ n ih=>
  intro A m h1 h2
  cases h1 with
  | next h5 h6 h7 h8=>
   obtain ⟨k,rfl,h9⟩:=runTo_next h2 h6 h7
   rw [ih h8 h9]
open Classical in
noncomputable def runMu(st:Pl.Ap→Int×Pl.Ap)(Q:Pl.Ap→Prop)(c:Int)(B:Pl.Ap)(A:Pl.Ap):Nat:=if h:∃ n,Pl.RunTo st Q n A c B then Classical.choose h else 0
theorem runMu_lt{st:Pl.Ap→Int×Pl.Ap}{Q:Pl.Ap→Prop}{A B:Pl.Ap}{c:Int}(h:∃ n,Pl.RunTo st Q n A c B)(h1:(st A).1=0)(h2:(st A).2.st≠2):(∃ n,Pl.RunTo st Q n (st A).2 c B)∧runMu st Q c B (st A).2<runMu st Q c B A:=by
 obtain ⟨m,hm,h3⟩:=runTo_next (Classical.choose_spec h) h1 h2
 have h4:∃ n,Pl.RunTo st Q n (st A).2 c B:=⟨m,h3⟩
 refine ⟨h4,?_⟩
 unfold runMu
 rw [dif_pos h,dif_pos h4,runTo_uniq (Classical.choose_spec h4) h3,hm]
 exact Nat.lt_succ_self _
theorem a_runTo{c:Int}{B:Pl.Ap}(K:ApK)(A:Pl.Ap)(pk:Int)(j:Nat)(Zj Zd:List (Nat×Blk))(w0:World)(hK:K.ok)(hs:Sid K A)(hO:Jr w0 (ApR K A pk j::(K.F++(Zj++Zd))))(hj:JZ 271 5 K.md (K.f:Int) K.bnd K.kk A.S j Zj)(hz:JV 112 258 5 A.D K.md Zd)(hrd:A.st=0→Pl.rdB A.D 0 K.oo=K.fl)(h:∃ n,Pl.RunTo (Pl.Ap.step K.f K.N K.bnd K.kk K.cm) (Sid K) n A c B):C Tryz.prog 112 [.pointer (some ⟨K.ma,0,none⟩)] w0 fun v w'=>v=.agg ⟨[.int .i64 c,.int .i64 0]⟩∧ApO K B pk w0 w' (ApR K A pk j::(K.F++(Zj++Zd))):=
 (a_run K A pk j Zj Zd w0 hK hs hO hj hz (fun A1=>∃ n,Pl.RunTo (Pl.Ap.step K.f K.N K.bnd K.kk K.cm) (Sid K) n A1 c B) (runMu (Pl.Ap.step K.f K.N K.bnd K.kk K.cm) (Sid K) c B) hrd h (fun A1 ⟨n,h1⟩=>runTo_at h1) (fun A1 h1 h2 h3=>runMu_lt h1 h2 h3)).mono fun v w' ⟨A1,⟨n,h1⟩,h2,h3,h4⟩=>by
  obtain ⟨e1,e2⟩:=runTo_end h1 h2
  rw [e1,e2]
  exact ⟨h3,h4⟩
theorem a_peak(md ma:Nat)(bnd pk oo nn:Int)(H:Nat→UInt8)(q:Option Addr)(n cq mp j:Nat)(st nx:Int)(sg:Bool)(w0:World)(hr:w0.heap[ma]?=some (Blk.row 183 (apV md bnd pk (dlV oo nn H q n cq) mp j st nx sg)).Jd):C Tryz.prog 78 [.pointer (some ⟨ma,0,none⟩)] w0 fun v w'=>v=.int .i64 pk∧Ext No w0 w':=by
 refine C_o Tryz.func78 fun κ _ Je Jc hm=>?_
 refine au 27 ?_
 exact ⟨rfl,hm.to⟩
theorem a_state(md ma:Nat)(bnd pk oo nn:Int)(H:Nat→UInt8)(q:Option Addr)(n cq mp j:Nat)(st nx:Int)(sg:Bool)(w0:World)(hr:w0.heap[ma]?=some (Blk.row 183 (apV md bnd pk (dlV oo nn H q n cq) mp j st nx sg)).Jd):C Tryz.prog 110 [.pointer (some ⟨ma,0,none⟩)] w0 fun v w'=>v=.int .i64 st∧Ext No w0 w':=by
 refine C_o Tryz.func110 fun κ _ Je Jc hm=>?_
 refine au 26 ?_
 exact ⟨rfl,hm.to⟩
theorem a_next(md ma:Nat)(bnd pk oo nn:Int)(H:Nat→UInt8)(q:Option Addr)(n cq mp j:Nat)(st nx:Int)(sg:Bool)(w0:World)(hr:w0.heap[ma]?=some (Blk.row 183 (apV md bnd pk (dlV oo nn H q n cq) mp j st nx sg)).Jd):C Tryz.prog 111 [.pointer (some ⟨ma,0,none⟩)] w0 fun v w'=>v=.int .i64 nx∧Ext No w0 w':=by
 refine C_o Tryz.func111 fun κ _ Je Jc hm=>?_
 refine au 26 ?_
 exact ⟨rfl,hm.to⟩
end Go.Proofs.YtaehgpeenaomcaaGreat
namespace Go.Pl
open Go Go.Cx Go.Proofs.YtaehgpeenaomcaaGreat
structure AttTo(f N:Nat)(b k oo nn:Int)(fl:List UInt8)(cs:List Pl.Cm)(D:Pl.Dv)(c:Int)(D':Pl.Dv):Prop where
 dn:D.dn=false
 le:Pl.X7 D.sz b oo nn=0
 lf:Pl.layF D.sz oo nn=(f:Int)
 sl:Pl.slot D.sz b=(N:Int)
 h2:f+2*N≤D.cnt
 la:(Pl.jopen D f N k).la.bs.length≤1000000
 mt:(Pl.jopen D f N k).has=true→Pl.mtch0 b cs (Pl.jla (Pl.jopen D f N k))
 rd:(Pl.VL D (Pl.jopen D f N k) (Pl.JF b cs)).st=0→Pl.rdB D 0 oo=fl
 run:∃ n B,Pl.RunTo (Pl.Ap.step f N b k cs) (Pl.SidP f N b oo nn (Pl.apl fl cs nn.toNat) cs) n (Pl.VL D (Pl.jopen D f N k) (Pl.JF b cs)) c B∧D'=Pl.sDv B.D∧B.D.ca.length≤1000000000
end Go.Pl
namespace Go.Proofs.YtaehgpeenaomcaaGreat
open Go Go.Cx
theorem att_run{K:ApK}{f N:Nat}{b k oo nn:Int}{fl:List UInt8}{cs:List Pl.Cm}{n:Nat}{A B:Pl.Ap}{c:Int}(k2:K.f=f)(k3:K.N=N)(k4:K.kk=k)(k5:K.bnd=b)(k6:K.oo=oo)(k7:K.nn=nn)(k8:K.fl=fl)(k9:K.cm=cs)
 (h:Pl.RunTo (Pl.Ap.step f N b k cs) (Pl.SidP f N b oo nn (Pl.apl fl cs nn.toNat) cs) n A c B):Pl.RunTo (Pl.Ap.step K.f K.N K.bnd K.kk K.cm) (Sid K) n A c B:=by
 subst k2 k3 k4 k5 k6 k7 k8 k9
 exact h
theorem cpN{w0 w:World}{X:Bs}{q:Nat×Blk}{A Zd F Zj:List (Nat×Blk)}(h:Mem w0 w X (q::(A++Zd++(F++Zj)))):Mem w0 w X (A++(q::(F++(Zj++Zd)))):=by
 refine h.perm ?_
 rw [Lp]
 refine (List.perm_middle (a:=q) (l₁:=A)).symm.trans ?_
 refine List.Perm.append_left _ (List.Perm.cons _ ?_)
 rw [← Lp F]
 exact List.perm_append_comm
theorem cpD{w0 w:World}{X:Bs}{a b c q:Nat×Blk}{F Zj Zd:List (Nat×Blk)}(h:Mem w0 w X (a::b::c::q::(F++(Zj++Zd)))):Mem w0 w X ((a::b::c::Zd)++(q::(F++Zj))):=by
 refine h.perm (.cons _ (.cons _ (.cons _ ?_)))
 refine List.Perm.trans ?_ List.perm_append_comm
 rw [← Lp]
 exact .refl _
theorem cpU{w0 w:World}{X:Bs}{a b c q:Nat×Blk}{R Zd:List (Nat×Blk)}(h:Mem w0 w X ((a::b::c::Zd)++(q::R))):Mem w0 w X (a::q::(R++Zd)):=by
 have h1:Mem w0 w X (a::(Zd++(q::R))):=h.drop (.cons_cons _ (.cons _ (.cons _ (List.Sublist.refl _))))
 refine h1.perm (.cons _ ?_)
 exact List.perm_append_comm
theorem c_attD(D:Pl.Dv)(md:Nat)(Z:List (Nat×Blk))(m6 m3 m8:Nat)(a b c e g b0:Int)(w0:World)(hO:Jr w0 ((m6,.row 72 [.int .i64 a,.int .i64 b,.int .i64 c,.int .i64 e,.int .i64 g])::(m3,.row 67 [.pointer (some ⟨md,0,none⟩)])::(m8,.row 3 [.int .i64 b0])::Z))(hz:JV 112 258 5 D md Z)(hcl:D.ca.length≤1000000000):CallsD Tryz.prog 107 ⟨[.pointer (some ⟨m3,0,none⟩),.pointer (some ⟨m8,0,none⟩),.pointer (some ⟨m6,0,none⟩)]⟩ .returning w0 fun x u' w'=>u'=.returning∧Rt (fun v w'=>v=.tuple ⟨[]⟩∧∃ (Z':List (Nat×Blk)) (wr:Int),JV 112 258 5 (Pl.sDv D) md Z'∧Mem w0 w' (Mn (reals ((m6,.row 72 [.int .i64 a,.int .i64 b,.int .i64 c,.int .i64 e,.int .i64 g])::(m3,.row 67 [.pointer (some ⟨md,0,none⟩)])::(m8,.row 3 [.int .i64 b0])::Z))) ((m6,.row 72 [.int .i64 a,.int .i64 b,.int .i64 wr,.int .i64 e,.int .i64 g])::(m3,.row 67 [.pointer (some ⟨md,0,none⟩)])::(m8,.row 3 [.int .i64 b0])::Z')) x w':=by
 refine CDf_of Tryz.func107 rfl rfl rfl fun κ _ Je Jc=>?_
 have hm:=hO.start
 refine au 1 ?_
 refine dw [0,9,4,6,2,12,15,19] hm fun w hw hm0 hh hm=>?_
 refine au 2 ?_
 refine cB rfl rfl rfl (o_stats D md Z _ (Jr.right (A:=[_,_,_]) hm.Jz) hz) hm hh fun w hm hh=>?_
 refine Ja rfl rfl (QF rfl fv108_0 rfl) ?_
 refine au 1 ?_
 refine Ja rfl rfl (QR rfl rfl rfl) ?_
 refine au 1 ?_
 refine st hm 0 fun w hm=>?_
 refine au 4 ?_
 refine cT rfl rfl rfl (o_restart D md Z _ (Jr.right (A:=[_,_,_]) hm.Jz) hz hcl) fun v w hR=>?_
 obtain ⟨rfl,Z1,hz1,hmc⟩:=hR
 replace hm:=Mem.JQ (A:=[_,_,_]) hm hmc
 refine au 1 ?_
 refine toN (fin Jc rfl .nil .nil ?_)
 exact ⟨rfl,Z1,_,hz1,(hm.Jp [0,1,2] 3 rfl)⟩
theorem c_att(D:Pl.Dv)(md:Nat)(Z:List (Nat×Blk))(bnd oo nn:Int)(fl:List UInt8)(q:Option Addr)(cq:Nat)(cs:List CmdV)(f N:Nat)(kid:Int)(H:Nat→UInt8)(e:Int)(E:Pl.Dv)(w0:World)(hZ:Jr w0 Z)(hz:JV 112 258 5 D md Z)(hN:NwOk bnd oo nn fl (cs.map CmdV.cm))(h0:N≠0)(hHH:(Pl.hh (Pl.sha fl) (Pl.sha (Pl.apl fl (cs.map CmdV.cm) nn.toNat)))=H)(hkid:Pl.fid (Pl.fenc oo nn H (cs.map CmdV.cm))=kid)(hk64:0≤kid∧kid≤18446744073709551615)(hfe:(Pl.fenc oo nn H (cs.map CmdV.cm)).length≤1000000000000)(hq:∀ w L,Mem w0 w (Mn (reals Z)) L→Rd w q (cs.flatMap JM)∧∀ c∈cs,Q1 w c)(hA:Pl.AttTo f N bnd kid oo nn fl (cs.map CmdV.cm) D e E):C Tryz.prog 77 [.pointer (some ⟨md,0,none⟩),.int .i64 bnd,.agg ⟨dlV oo nn H q cs.length cq⟩] w0 fun v w'=>∃ (K:ApK) (B:Pl.Ap) (a b c pk:Int) (j:Nat) (R Zd:List (Nat×Blk)),v=.tuple ⟨[.agg ⟨[.int .i64 a,.int .i64 b,.int .i64 c,.int .i64 e,.int .i64 0]⟩,.pointer (some ⟨K.ma,0,none⟩)]⟩∧pk≤max 0 bnd∧JV 112 258 5 E md Zd∧Mem w0 w' (Mn (reals Z)) (ApR K B pk j::(R++Zd)):=by
 refine CE.c (E:=fun _ _=>False) (CD_of Tryz.func77 rfl rfl rfl ?_) (fun _ _ h=>h)
 have hm:=hZ.start
 refine au 2 ?_
 refine bT hm fun m3 w hm=>?_
 refine bT hm fun m5 w hm=>?_
 refine aT hm fun m6 w hm=>?_
 refine au 6 ?_
 refine cA rfl rfl rfl (o_stats D md Z _ (Jr.right (A:=[_,_,_]) hm.Jz) hz) hm fun w hm=>?_
 refine Ja rfl rfl (QF rfl fv108_0 rfl) ?_
 refine aT hm fun m8 w hm=>?_
 refine st hm 0 fun w hm=>?_
 refine au 3 ?_
 refine HW_textN (.pure 0 (.act 1 .done)) (by kernel_rfl) ?_
 refine au 1 ?_
 refine a_defer rfl rfl rfl trivial ?_
 refine au 6 ?_
 refine Ja rfl rfl (Jm (s:=67) (vs:=dlV oo nn H _ cs.length cq) rfl ag26.h (hm.nt 2 rfl) rfl) ?_
 refine cT rfl rfl rfl (a_new D md Z bnd oo nn fl q cq cs f N kid (Pl.jopen D f N kid) H _ hHH hkid rfl (Jr.right (A:=[_,_,_,_]) hm.Jz) hz hN (hq _ _ hm).1 (hq _ _ hm).2 hA.le hA.lf hA.sl h0 hA.h2 hA.dn hk64 hfe hA.la hA.mt) fun v w hR=>?_
 obtain ⟨K,hK,⟨k1,k2,k3,k4,k5,k6,k7,k8,k9⟩,j,Zj,rfl,hj,hmc⟩:=hR
 replace hm:=cpN (A:=[_,_,_,_]) (hm.VZ hmc)
 obtain ⟨n9,B,hrun,hEq,hca⟩:=hA.run
 have hrun1:=att_run k2 k3 k4 k5 k6 k7 k8 k9 hrun
 have hj1:JZ 271 5 K.md (K.f:Int) K.bnd K.kk (Pl.VL D (Pl.jopen D f N kid) (Pl.JF bnd (cs.map CmdV.cm))).S j Zj:=by rw [k1,k2,k5,k4,show (Pl.VL D (Pl.jopen D f N kid) (Pl.JF bnd (cs.map CmdV.cm))).S=(Pl.jopen D f N kid) by unfold Pl.VL; split <;> rfl]; exact hj
 have hz1:JV 112 258 5 (Pl.VL D (Pl.jopen D f N kid) (Pl.JF bnd (cs.map CmdV.cm))).D K.md Z:=by rw [k1,show (Pl.VL D (Pl.jopen D f N kid) (Pl.JF bnd (cs.map CmdV.cm))).D=D by unfold Pl.VL; split <;> rfl]; exact hz
 refine au 5 ?_
 refine st hm 1 fun w hm=>?_
 refine au 6 ?_
 refine Ja rfl rfl (y_pnnil rfl rfl pb147.h) ?_
 refine au 6 ?_
 refine cA rfl rfl rfl (a_state K.md K.ma K.bnd 0 K.oo K.nn K.H K.q K.cs.length K.cq K.mp j (Pl.VL D (Pl.jopen D f N kid) (Pl.JF bnd (cs.map CmdV.cm))).st (Pl.VL D (Pl.jopen D f N kid) (Pl.JF bnd (cs.map CmdV.cm))).nx (Pl.VL D (Pl.jopen D f N kid) (Pl.JF bnd (cs.map CmdV.cm))).sg _ (hm.get (k:=4) rfl)) hm fun w hm=>?_
 refine au 1 ?_
 refine cA rfl rfl rfl (a_next K.md K.ma K.bnd 0 K.oo K.nn K.H K.q K.cs.length K.cq K.mp j (Pl.VL D (Pl.jopen D f N kid) (Pl.JF bnd (cs.map CmdV.cm))).st (Pl.VL D (Pl.jopen D f N kid) (Pl.JF bnd (cs.map CmdV.cm))).nx (Pl.VL D (Pl.jopen D f N kid) (Pl.JF bnd (cs.map CmdV.cm))).sg _ (hm.get (k:=4) rfl)) hm fun w hm=>?_
 refine au 1 ?_
 refine st hm 1 fun w hm=>?_
 refine au 1 ?_
 refine st hm 1 fun w hm=>?_
 refine au 4 ?_
 refine cT rfl rfl rfl (a_runTo K (Pl.VL D (Pl.jopen D f N kid) (Pl.JF bnd (cs.map CmdV.cm))) 0 j Zj Z _ hK (runTo_at hrun1) (Jr.right (A:=[_,_,_,_]) hm.Jz) hj1 hz1 (by rw [k6,k8,show (Pl.VL D (Pl.jopen D f N kid) (Pl.JF bnd (cs.map CmdV.cm))).D=D by unfold Pl.VL; split <;> rfl]; exact hA.rd) ⟨n9,hrun1⟩) fun v w hR=>?_
 obtain ⟨rfl,pk9,Z9,hp9,⟨j9,Zj9,Zd9,rfl,hj9,hz9⟩,hmc⟩:=hR
 replace hm:=Mem.JQ (A:=[_,_,_,_]) hm hmc
 rw [k1] at hz9
 rw [k5] at hp9
 refine au 1 ?_
 refine st hm 1 fun w hm=>?_
 refine au 6 ?_
 refine st hm 1 fun w hm=>?_
 refine au 4 ?_
 refine toR fun a hfa=>?_
 show Leaves _ _ _ _ a.defers _ _
 rw [hfa.defers]
 have hm9:=cpD (F:=K.F) (Zj:=Zj9) (Zd:=Zd9) (hm.Jp [1,3,0,4] 5 rfl)
 refine leave1 (by simp) (c_attD B.D md _ m6 m3 m8 _ _ _ _ _ _ w (Jr.left (A:=_::_::_::Zd9) hm9.Jz) hz9 hca) go107 rfl fun v w9 hv=>?_
 obtain ⟨rfl,Zd2,wr,hz2,hmc2⟩:=hv
 have hm8:=cpU (hm9.callZ hmc2)
 refine fin_res (fn:=Tryz.f77) (v:=.tuple ⟨[.agg ⟨[.int .i64 (Pl.VL D (Pl.jopen D f N kid) (Pl.JF bnd (cs.map CmdV.cm))).st,.int .i64 (Pl.VL D (Pl.jopen D f N kid) (Pl.JF bnd (cs.map CmdV.cm))).nx,.int .i64 wr,.int .i64 e,.int .i64 0]⟩,.pointer (some ⟨K.ma,0,none⟩)]⟩) (R:=fun v w'=>∃ (K:ApK) (B:Pl.Ap) (a b c pk:Int) (j:Nat) (R Zd:List (Nat×Blk)),v=.tuple ⟨[.agg ⟨[.int .i64 a,.int .i64 b,.int .i64 c,.int .i64 e,.int .i64 0]⟩,.pointer (some ⟨K.ma,0,none⟩)]⟩∧pk≤max 0 bnd∧JV 112 258 5 E md Zd∧Mem w0 w' (Mn (reals Z)) (ApR K B pk j::(R++Zd))) rfl (.cell rfl (Ju (vs:=[_,_,_,_,_]) ag72.h (hm8.get (k:=0) rfl) rfl) (.tmp rfl .nil)) .more ?_ hfa
 exact ⟨K,B,_,_,_,pk9,j9,_,Zd2,rfl,hp9,hEq▸hz2,hm8.tail⟩
end Go.Proofs.YtaehgpeenaomcaaGreat
namespace Go.Pl
open Go Go.Cx Go.Proofs.YtaehgpeenaomcaaGreat
inductive AttsTo(f N:Nat)(b k oo nn:Int)(fl:List UInt8)(cs:List Pl.Cm):List (Int×Int)→Pl.Dv→Nat→Int→Pl.Dv→Prop
 | last {x:Int×Int} {r:List (Int×Int)} {D E:Pl.Dv} {c:Int}:Pl.AttTo f N b k oo nn fl cs (Pl.aDv D x.1 x.2) c E→c≠18→AttsTo f N b k oo nn fl cs (x::r) D 1 c E
 | more {x:Int×Int} {r:List (Int×Int)} {D E F:Pl.Dv} {n:Nat} {c:Int}:Pl.AttTo f N b k oo nn fl cs (Pl.aDv D x.1 x.2) 18 E→AttsTo f N b k oo nn fl cs r E n c F→AttsTo f N b k oo nn fl cs (x::r) D (n+1) c F
end Go.Pl
namespace Go.Proofs.YtaehgpeenaomcaaGreat
open Go Go.Cx
section
variable {f N:Nat}{b k oo nn:Int}{fl:List UInt8}{cs:List Pl.Cm}
theorem atts_pos{l:List (Int×Int)}{D E:Pl.Dv}{n:Nat}{c:Int}(h:Pl.AttsTo f N b k oo nn fl cs l D n c E):1≤n:=by cases h <;> omega
theorem atts_nil{D E:Pl.Dv}{n:Nat}{c:Int}(h:Pl.AttsTo f N b k oo nn fl cs [] D n c E):False:=by cases h
theorem atts_inv{x:Int×Int}{r:List (Int×Int)}{D E:Pl.Dv}{n:Nat}{c:Int}(h:Pl.AttsTo f N b k oo nn fl cs (x::r) D n c E):∃ e D1,Pl.AttTo f N b k oo nn fl cs (Pl.aDv D x.1 x.2) e D1∧((e≠18∧n=1∧c=e∧E=D1)∨(e=18∧∃ m,n=m+1∧Pl.AttsTo f N b k oo nn fl cs r D1 m c E)):=by
 cases h with
 | last h1 h2=>exact ⟨_,_,h1,.inl ⟨h2,rfl,rfl,rfl⟩⟩
 | more h1 h2=>exact ⟨_,_,h1,.inr ⟨rfl,_,rfl,h2⟩⟩
end
def encK(k:Int×Int):List Value:=[.int .i64 k.1,.int .u64 k.2]
theorem encK_len(k:Int×Int):(encK k).length=2:=rfl
theorem encK_all:∀ ks:List (Int×Int),(ks.flatMap encK).length=ks.length*2
 | []=>rfl
 | k::r=>by rw [Lk,Lc,encK_all r,encK_len,Li]; omega
theorem g_toO{w0 w:World}{Z:List (Nat×Blk)}{p:Nat×Blk}(hZ:Jr w0 Z)(h:Mem w0 w No [p]):Mem w0 w (Mn (reals Z)) (p::Z):=h.Zp hZ
theorem apTl{w:World}{a b:Nat×Blk}{Z:List (Nat×Blk)}(h:Jr w (a::b::Z)):Mem w w (Mn (reals (a::b::Z))) (a::Z):=h.start.drop (.cons_cons _ (.cons _ (List.Sublist.refl _)))
theorem apTl2{w:World}{a b:Nat×Blk}{Z:List (Nat×Blk)}(h:Jr w (a::b::Z)):Mem w w (Mn (reals (a::b::Z))) Z:=h.start.drop (.cons _ (.cons _ (List.Sublist.refl _)))
theorem apDrop{w0 w:World}{X:Bs}{a b p:Nat×Blk}{R Z:List (Nat×Blk)}(h:Mem w0 w X (a::b::p::(R++Z))):Mem w0 w X (a::b::Z):=
 h.drop (.cons_cons _ (.cons_cons _ (.cons _ (List.sublist_append_right _ _))))
theorem c_atts(md:Nat)(bnd:Int)(L67:List Value)(hL:L67.length=67)(sp:Option Addr)(sn sc:Nat)(w0:World):C Tryz.prog 48 [.pointer (some ⟨md,0,none⟩),.int .i64 bnd,.agg ⟨L67⟩,.slice sp sn sc] w0 fun v w'=>∃ m1 m2 m3 m4,v=.func (.func 75) #[] ⟨[.pointer (some ⟨m1,0,none⟩),.pointer (some ⟨m2,0,none⟩),.pointer (some ⟨m3,0,none⟩),.pointer (some ⟨m4,0,none⟩)]⟩∧Mem w0 w' No [(m1,.row 64 [.slice sp sn sc]),(m4,.row 26 L67),(m3,.row 3 [.int .i64 bnd]),(m2,.row 67 [.pointer (some ⟨md,0,none⟩)])]:=by
 refine C_o Tryz.func48 fun κ _ Je Jc hm=>?_
 refine au 2 ?_
 refine bT hm fun m1 w hm=>?_
 refine bT hm fun m2 w hm=>?_
 refine bT hm fun m3 w hm=>?_
 refine bT hm fun m4 w hm=>?_
 refine au 11 ?_
 exact ⟨_,_,_,_,rfl,hm⟩
theorem c_atts1(md:Nat)(bnd oo nn:Int)(fl:List UInt8)(q:Option Addr)(cq:Nat)(cs:List CmdV)(f N:Nat)(kid:Int)(H:Nat→UInt8)(sp:Option Addr)(sc:Nat)(ks:List (Int×Int))(m1 m2 m3 m4 yl:Nat)(I:List (Nat×Blk)→Nat→World→Prop)(Z:List (Nat×Blk))(D E:Pl.Dv)(n:Nat)(c:Int)(w0:World)(hN:NwOk bnd oo nn fl (cs.map CmdV.cm))(h0:N≠0)(hHH:(Pl.hh (Pl.sha fl) (Pl.sha (Pl.apl fl (cs.map CmdV.cm) nn.toNat)))=H)(hkid:Pl.fid (Pl.fenc oo nn H (cs.map CmdV.cm))=kid)(hk64:0≤kid∧kid≤18446744073709551615)(hfe:(Pl.fenc oo nn H (cs.map CmdV.cm)).length≤1000000000000)(hks:∀ k∈ks,Pl.I64 k.1∧0≤k.2∧k.2≤18446744073709551615)(hkl:ks.length≤1000∧ks.length≤sc)(hrow:∀ F i w,I F i w→w.heap[m1]?=some (Blk.row 64 [.slice sp ks.length sc]).Jd∧w.heap[m2]?=some (Blk.row 67 [.pointer (some ⟨md,0,none⟩)]).Jd∧w.heap[m3]?=some (Blk.row 3 [.int .i64 bnd]).Jd∧w.heap[m4]?=some (Blk.row 26 (dlV oo nn H q cs.length cq)).Jd∧Rd w sp (ks.flatMap encK)∧Rd w q (cs.flatMap JM)∧∀ c∈cs,Q1 w c)(hown:∀ F i w,I F i w→Jr w F)(hstep:∀ Z Z' i w w',I Z i w→Mem w w' (Mn (reals Z)) Z'→I Z' i w')(hy:∀ F i w a b d e pk,I F i w→i<n→pk≤max 0 bnd→(i+1=n→e=c)→Yw Tryz.prog yl [.agg ⟨[.int .i64 a,.int .i64 b,.int .i64 d,.int .i64 e,.int .i64 0]⟩,.int .i64 pk] w fun v w'=>v=.bool true∧I F (i+1) w')(hz:JV 112 258 5 D md Z)(h0':I Z 0 w0)(hA:Pl.AttsTo f N bnd kid oo nn fl (cs.map CmdV.cm) (ks++[((-1:Int),(0:Int))]) D n c E):C Tryz.prog 75 [.func (.yield yl) #[] #[],.pointer (some ⟨m1,0,none⟩),.pointer (some ⟨m2,0,none⟩),.pointer (some ⟨m3,0,none⟩),.pointer (some ⟨m4,0,none⟩)] w0 fun v w'=>v=.tuple ⟨[]⟩∧∃ Z',JV 112 258 5 E md Z'∧I Z' n w':=by
 obtain ⟨hr1,hr2,hr3,hr4,hr5,hr6,hr7⟩:=hrow _ _ _ h0'
 have hbn:=hN.bn
 refine C_o Tryz.func75 fun κ _ Je Jc hm=>?_
 refine au 2 ?_
 refine Ja rfl rfl (Jh rfl sc64.h (Qo hr1) rfl) ?_
 refine Ja rfl rfl (Jh rfl sc64.h (Qo hr1) rfl) ?_
 refine au 1 ?_
 refine Ja rfl rfl (Jh rfl sc64.h (Qo hr1) rfl) ?_
 refine au 1 ?_
 refine Ja rfl rfl (y_slice3 rfl sl64.h rfl rfl (by omega) hkl.2) ?_
 refine au 1 ?_
 refine Jb (l:=[_,_]) rfl rfl sl64.h z57.h rfl rfl rfl rfl rfl rfl rfl hm trivial fun m17 w hg_m17 hm hh=>?_
 refine a_appendF rfl rfl rfl rfl rfl rfl sl64.h sl64.h z57.h rfl (Rd.JL (hm.get (k:=0) rfl)) rfl (hr5.Jj hm.to) (encK_all ks) (by omega) hm (by omega) (by omega) fun cap_o g_o b_o w ha_o hm=>?_
 have ha_o:=ha_o.to (show ks.flatMap encK++[.int .i64 (-1),.int .u64 0]=(ks++[((-1:Int),(0:Int))]).flatMap encK by rw [Lh]; rfl)
 refine au 5 ?_
 refine Jg (ι:=Nat×Pl.Dv×List (Nat×Blk)) rfl (ks:=[0,2,3,4,18,19]) (.cons rfl (.cons rfl (.cons rfl (.cons rfl (.cons rfl (.cons rfl .nil)))))) (fun x=>[(20,.int .i64 (x.1:Int))]) (fun x w=>I ((g_o,b_o)::x.2.2) x.1 w∧JV 112 258 5 x.2.1 md x.2.2∧∃ m,Pl.AttsTo f N bnd kid oo nn fl (cs.map CmdV.cm) ((ks++[((-1:Int),(0:Int))]).drop x.1) x.2.1 m c E∧x.1+m=n) (fun x=>(ks++[((-1:Int),(0:Int))]).length-x.1) (0,D,Z) (⟨hstep _ _ _ _ _ h0' (g_toO (hown _ _ _ h0') (hm.pick [0] rfl)),hz,n,hA,LV _⟩) ⟨rfl,trivial⟩ (fun x w hM=>?_)
 obtain ⟨i,D1,Zd⟩:=x
 obtain ⟨hI,hz1,m,hA1,hin⟩:=hM
 simp only at hI hz1 hA1 hin
 have hm:=(hown _ _ _ hI).start
 refine au 6 ?_
 refine cd (fun hc0=>?_) fun hc0=>?_
 ·
  simp only [dT] at hc0
  obtain ⟨k,hi⟩:∃ k,(ks++[((-1:Int),(0:Int))])[i]?=some k:=⟨_,La (by simp only [Lc,LG]; omega)⟩
  have hki:Pl.I64 k.1∧0≤k.2∧k.2≤18446744073709551615:=(Ls.1 (Ld hi)).elim (hks k) (fun h=>by rw [Lf.1 h]; simp only [Pl.I64]; omega)
  have hil:=(Le.1 hi).1
  rw [Pl.drop_cons hi] at hA1
  obtain ⟨e1,E1,hA2,hor⟩:=atts_inv hA1
  have hilt:i<n:=by have:=atts_pos hA1; omega
  have hcode:i+1=n→e1=c:=fun h=>by
   rcases hor with ⟨h1,h2,h3,h4⟩ | ⟨h1,m9,h2,h3⟩
   · exact h3.symm
   · have:=atts_pos h3; omega
  obtain ⟨qb2,qo,hq9⟩:=(ha_o.rd hm 0 rfl).atI encK_len (by decide) hi
  cases hq9
  refine au 7 ?_
  refine Ja rfl rfl (JU rfl ag57.h (ha_o.rd hm 0 rfl).nt encK_len hi) ?_
  refine aT hm fun t7 w hm=>?_
  refine st hm 0 fun w hm=>?_
  obtain ⟨hr1,hr2,hr3,hr4,hr5,hr6,hr7⟩:=hrow _ _ _ (hstep _ _ _ _ _ hI hm)
  refine au 4 ?_
  refine Ja rfl rfl (Jh rfl sc67.h (Qo hr2) rfl) ?_
  refine au 4 ?_
  refine cT rfl rfl rfl (o_arm D1 md Zd _ (Jr.right (A:=[_,_]) hm.Jz) hz1 k.1 k.2 hki.1 hki.2) fun v w hR=>?_
  obtain ⟨rfl,Z1,hz2,hmc⟩:=hR
  replace hm:=Mem.JQ (A:=[_,_]) hm hmc
  obtain ⟨hr1,hr2,hr3,hr4,hr5,hr6,hr7⟩:=hrow _ _ _ (hstep _ _ _ _ _ hI hm)
  refine au 4 ?_
  refine Ja rfl rfl (Jh rfl sc67.h (Qo hr2) rfl) ?_
  refine Ja rfl rfl (Jh rfl sc3.h (Qo hr3) rfl) ?_
  refine Ja rfl rfl (Jm (s:=67) (vs:=dlV oo nn H _ cs.length cq) rfl ag26.h (Qo hr4) rfl) ?_
  refine cT rfl rfl rfl (c_att (Pl.aDv D1 k.1 k.2) md Z1 bnd oo nn fl q cq cs f N kid H e1 E1 _ (Jr.right (A:=[_,_]) hm.Jz) hz2 hN h0 hHH hkid hk64 hfe (fun w9 L9 hm9=>(hrow _ _ _ (hstep _ _ _ _ _ hI (Mem.JQ (A:=[_,_]) hm hm9))).2.2.2.2.2) hA2) fun v w hR=>?_
  obtain ⟨K,B,a1,b1,c1,pk1,j1,R1,Z2,rfl,hpk,hz3,hmc⟩:=hR
  replace hm:=Mem.JQ (A:=[_,_]) hm hmc
  refine au 3 ?_
  refine aT hm fun t8 w hm=>?_
  refine st hm 0 fun w hm=>?_
  refine au 4 ?_
  refine dw [0,3,6,10,2,13,15,18,21,24,27,30,33] hm fun w hw hm0 hh hm=>?_
  refine au 3 ?_
  refine cB rfl rfl rfl (a_peak K.md K.ma K.bnd pk1 K.oo K.nn K.H K.q K.cs.length K.cq K.mp j1 B.st B.nx B.sg _ (hm.get (k:=3) rfl)) hm hh fun w hm hh=>?_
  refine au 1 ?_
  have hI2:=hstep _ _ _ _ _ hI (apDrop (R:=R1) (Z:=Z2) (hm.Jp [2,0,3] 4 rfl))
  refine XM rfl rfl rfl rfl (hy _ _ _ _ _ _ _ _ hI2 hilt hpk hcode) fun v w hR=>?_
  refine ⟨trivial,?_⟩
  obtain ⟨rfl,hI3⟩:=hR
  have hm:=(hown _ _ _ hI3).start
  refine au 9 ?_
  refine cd (fun hc1=>?_) fun hc1=>?_
  ·
   simp only [dT] at hc1
   obtain ⟨-,h8,h9,h7⟩:=hor.resolve_right (fun h=>hc1 h.1)
   refine au 5 ?_
   refine toR (fin Je rfl .nil .nil ?_)
   exact ⟨rfl,Z2,h7▸hz3,by rw [show n=i+1 by omega]; exact hstep _ _ _ _ _ hI3 (apTl2 (hown _ _ _ hI3))⟩
  ·
   simp only [dF,Classical.not_not] at hc1
   refine au 7 ?_
   obtain ⟨-,m9,rfl,hA3⟩:=hor.resolve_left (fun h=>h.1 hc1)
   exact next (i+1,E1,Z2) (by simp only; omega) ⟨hstep _ _ _ _ _ hI3 (apTl (hown _ _ _ hI3)),hz3,m9,hA3,by simp only; omega⟩ ⟨nx i,rfl,rfl,rfl,rfl,rfl,rfl,trivial⟩
 ·
  simp only [dF] at hc0
  rw [List.drop_eq_nil_of_le (by simp only [Lc,LG]; omega)] at hA1
  have hF:=atts_nil hA1
  refine au 4 ?_
  refine toN (fin Jc rfl .nil .nil ?_)
  exact hF.elim
theorem atts_le{f N:Nat}{b k oo nn:Int}{fl:List UInt8}{cs:List Pl.Cm}:∀ {l:List (Int×Int)} {D E:Pl.Dv} {n:Nat} {c:Int},Pl.AttsTo f N b k oo nn fl cs l D n c E→n≤l.length
 | _,_,_,_,_,.last _ _=>by simp
 | _,_,_,_,_,.more _ h=>by have:=atts_le h; simp only [Li]; omega
theorem c_run(md:Nat)(Z:List (Nat×Blk))(D E:Pl.Dv)(nA:Nat)(c:Int)(bnd oo nn:Int)(fl:List UInt8)(q:Option Addr)(cq:Nat)(cs:List CmdV)(f N:Nat)(kid:Int)(H:Nat→UInt8)(sp:Option Addr)(sc:Nat)(ks:List (Int×Int))(w0:World)(hZ:Jr w0 Z)(hz:JV 112 258 5 D md Z)(hN:NwOk bnd oo nn fl (cs.map CmdV.cm))(h0:N≠0)(hHH:(Pl.hh (Pl.sha fl) (Pl.sha (Pl.apl fl (cs.map CmdV.cm) nn.toNat)))=H)(hkid:Pl.fid (Pl.fenc oo nn H (cs.map CmdV.cm))=kid)(hk64:0≤kid∧kid≤18446744073709551615)(hfe:(Pl.fenc oo nn H (cs.map CmdV.cm)).length≤1000000000000)(hks:∀ k∈ks,Pl.I64 k.1∧0≤k.2∧k.2≤18446744073709551615)(hkl:ks.length≤1000∧ks.length≤sc)(hq:∀ w L,Mem w0 w (Mn (reals Z)) L→Rd w sp (ks.flatMap encK)∧Rd w q (cs.flatMap JM)∧∀ c∈cs,Q1 w c)(hA:Pl.AttsTo f N bnd kid oo nn fl (cs.map CmdV.cm) (ks++[((-1:Int),(0:Int))]) D nA c E):C Tryz.prog 24 [.pointer (some ⟨md,0,none⟩),.int .i64 bnd,.agg ⟨dlV oo nn H q cs.length cq⟩,.slice sp ks.length sc] w0 fun v w'=>∃ (p:Option Addr) (cap:Nat) (pk:Int),v=.agg ⟨[.slice p nA cap,.bool (decide (c=0)),.int .i64 pk]⟩∧pk≤max 0 bnd∧∃ Z',JV 112 258 5 E md Z'∧Mem w0 w' (Mn (reals Z)) Z':=by
 have hna:nA≤ks.length+1:=by have:=atts_le hA; simpa using this
 have hna1:=atts_pos hA
 refine Zt Tryz.func24 rfl rfl rfl fun κ _ Je Jc=>?_
 have hm:=hZ.start
 refine au 2 ?_
 refine bT hm fun bx w hm=>?_
 refine aT hm fun m8 w hm=>?_
 refine au 4 ?_
 refine aT hm fun rr w hm=>?_
 replace hm:=hm.JP
 have ha_a:=Acc.nil 72 5 none 0
 refine au 7 ?_
 refine Ja rfl rfl (Jm (s:=67) (vs:=dlV oo nn H _ cs.length cq) rfl ag26.h (hm.nt 3 rfl) rfl) ?_
 refine au 1 ?_
 refine cT rfl rfl rfl (c_atts md bnd _ rfl sp ks.length sc _) fun v w hR=>?_
 obtain ⟨q1,q2,q3,q4,rfl,hmc⟩:=hR
 replace hm:=hm.Jt hmc
 refine au 3 ?_
 refine VJ rfl rfl go75 hm fun a_ fn r0 l w LB hLB hfr hl_ hs_ hm=>?_
 refine C.mono (c_atts1 md bnd oo nn fl q cq cs f N kid H sp sc ks q1 q2 q3 q4 l (fun F i w=>∃ (p:Option Addr) (n cap g:Nat) (b:Blk) (dn:Bool) (pk:Int) (cells:List Value),Mem w0 w (Mn (reals Z)) ((l,LB .ready none)::(r0,dblk (some []))::(q1,.row 64 [.slice sp ks.length sc])::(q4,.row 26 (dlV oo nn H q cs.length cq))::(q3,.row 3 [.int .i64 bnd])::(q2,.row 67 [.pointer (some ⟨md,0,none⟩)])::(g,b)::(rr,.row 44 [.slice p n cap,.bool dn,.int .i64 pk])::(m8,.row 44 [.slice none 0 0,.bool false,.int .i64 0])::(bx,.row 26 (dlV oo nn H q cs.length cq))::F)∧Acc 72 5 p n cap cells g b∧n=i∧pk≤max 0 bnd∧(i=nA→dn=decide (c=0))) Z D E nA c _ hN h0 hHH hkid hk64 hfe hks hkl
  (fun F i w hI=>by obtain ⟨p,n,cap,g,b,dn,pk,cells,hm,-⟩:=hI; exact ⟨hm.get (k:=2) rfl,hm.get (k:=5) rfl,hm.get (k:=4) rfl,hm.get (k:=3) rfl,(hq _ _ hm).1,(hq _ _ hm).2⟩)
  (fun F i w hI=>by obtain ⟨p,n,cap,g,b,dn,pk,cells,hm,-⟩:=hI; exact Jr.right (A:=[_,_,_,_,_,_,_,_,_,_]) hm.Jz)
  (fun Z1 Z2 i w w' hI hc=>by obtain ⟨p,n,cap,g,b,dn,pk,cells,hm,h9⟩:=hI; exact ⟨p,n,cap,g,b,dn,pk,cells,Mem.JQ (A:=[_,_,_,_,_,_,_,_,_,_]) hm hc,h9⟩)
  (fun F i w a b d e pk hI hi hpk he=>?_) hz ⟨_,_,_,_,_,_,_,_,hm,ha_a,rfl,Int.le_max_left ..,fun h=>by omega⟩ hA) (fun v w hR=>?_)
 ·
  subst hLB
  obtain ⟨p_a,n_a,cap_a,g_a,b_a,dn,pk0,cells,hm,ha_a,hn_a,hpk0,hdn⟩:=hI
  refine Yw.of hfr (hm.get (k:=0) rfl) rfl rfl ?_
  refine au 2 ?_
  refine aT hm fun xt w hm=>?_
  refine st hm 0 fun w hm=>?_
  refine au 5 ?_
  refine Xf hm 1 rfl fun w hm=>?_
  refine XC rfl ?_
  refine Qb rfl ?_
  refine JT (.pure 0 (.pure 1 (.pure 2 (.act 3 (.act 4 (.pure 5 (.act 6 .done))))))) (by kernel_rfl) ?_
  refine Ja rfl rfl (Jv rfl fo44_0.h) ?_
  refine Ja rfl rfl (Jh rfl sc42.h (hm.nt 8 rfl) rfl) ?_
  refine Ja rfl rfl (Jm (s:=5) (vs:=[_,_,_,_,_]) rfl ag72.h (hm.nt 0 rfl) rfl) ?_
  refine Jb (l:=[_,_,_,_,_]) rfl rfl sl42.h z72.h rfl rfl rfl rfl rfl rfl rfl hm trivial fun m5 w hg_m5 hm hh=>?_
  refine Jy rfl rfl rfl rfl rfl rfl sl42.h sl42.h z72.h rfl rfl (Rd.JL (hm.get (k:=0) rfl)) rfl ha_a hm 8 rfl (by omega) (by omega) fun p_a cap_a g_a b_a w ha_a hm=>?_
  refine au 1 ?_
  refine st hm 9 fun w hm=>?_
  refine au 7 ?_
  refine Ja rfl rfl (y_eq2 rfl rfl iii46) ?_
  refine au 1 ?_
  refine st hm 9 fun w hm=>?_
  refine Qc ?_
  refine QV ?_
  refine JT (.pure 0 (.pure 1 (.pure 2 (.pure 3 (.pure 4 (.act 5 .done)))))) (by kernel_rfl) ?_
  refine Ja rfl rfl (Jv rfl fo44_2.h) ?_
  refine Ja rfl rfl (Jh rfl sc3.h (hm.nt 9 rfl) rfl) ?_
  refine Ja rfl rfl (Jx rfl) ?_
  refine Ja rfl rfl (y_max rfl rfl) ?_
  refine Ja rfl rfl (Jv rfl fo44_2.h) ?_
  refine st hm 9 fun w hm=>?_
  refine au 2 ?_
  refine g_end hm 2 rfl fun w hm=>?_
  exact ⟨rfl,p_a,_,cap_a,g_a,b_a,_,_,_,(hm.Jp [2,3,4,5,6,7,8,9,10,11] 12 rfl),ha_a,by omega,by omega,fun h=>by rw [he h]; simp⟩
 ·
  subst hLB
  obtain ⟨rfl,Z1,hz1,hI⟩:=hR
  obtain ⟨p_a,n_a,cap_a,g_a,b_a,dn,pk0,cells,hm,ha_a,hn_a,hpk0,hdn⟩:=hI
  subst hn_a
  obtain rfl:=hdn rfl
  refine ⟨.ready,none,nofun,hm.get (k:=0) rfl,fun w4 hw4=>?_⟩
  replace hm:=Xw hm hw4
  refine au 5 ?_
  refine st hm 7 fun w hm=>?_
  refine au 3 ?_
  refine toR (fin1 Je rfl hm 0 rfl .one fun w hm=>⟨(.cell rfl (Ju (vs:=[_,_,_]) ag44.h (hm.get (k:=7) rfl) rfl) .nil),?_⟩)
  exact ⟨p_a,cap_a,pk0,rfl,hpk0,Z1,hz1,(hm.Jp [] 9 rfl)⟩
end Go.Proofs.YtaehgpeenaomcaaGreat
namespace Go.Pl
open Go Go.Cx Go.Proofs.YtaehgpeenaomcaaGreat
def RwTo(sz:Nat)(b oo nn:Int)(fl:List UInt8)(ks:List (Int×Int))(nA:Nat)(cs:List Pl.Cm):Prop:=
 ∃ (f N:Nat) (kid:Int) (E:Pl.Dv),Pl.fid (Pl.fenc oo nn (Pl.hh (Pl.sha fl) (Pl.sha (Pl.apl fl cs nn.toNat))) cs)=kid∧(0≤kid∧kid≤18446744073709551615)∧(Pl.fenc oo nn (Pl.hh (Pl.sha fl) (Pl.sha (Pl.apl fl cs nn.toNat))) cs).length≤1000000000000∧NwOk b oo nn fl cs∧Pl.X7 sz b oo nn=0∧Pl.layF sz oo nn=(f:Int)∧Pl.slot sz b=(N:Int)∧N≠0 ∧
  Pl.right sz ((f+2*N:Nat):Int) fl.length=true∧Pl.AttsTo f N b kid oo nn fl cs (ks++[((-1:Int),(0:Int))]) (Pl.nDv sz (f+2*N) fl) nA 0 E∧E.dk.take nn.toNat=Pl.apl fl cs nn.toNat∧nn.toNat≤E.dk.length
end Go.Pl
namespace Go.Proofs.YtaehgpeenaomcaaGreat
open Go Go.Cx
theorem encB_take:∀ (bs:List UInt8) (n:Nat),(bs.take n).flatMap Jk=(bs.flatMap Jk).take n
 | [],n=>by simp
 | b::r,0=>by simp
 | b::r,n+1=>by rw [List.take_succ_cons,Lk,Lk,encB_take r n]; rfl
theorem Yq{fl:List UInt8}{cs:List Pl.Cm}{n:Nat}:(Pl.apl fl cs n).length=n:=by unfold Pl.apl; rw [Lj,List.length_range]
theorem c_rewrite(r:Option Addr)(cr:Nat)(fl:List UInt8)(q:Option Addr)(cq:Nat)(cs:List CmdV)(oo nn:Int)(H:Nat→UInt8)(sz:Nat)(bnd:Int)(sp:Option Addr)(sc:Nat)(ks:List (Int×Int))(nA:Nat)(w0:World)(hH:Pl.hh (Pl.sha fl) (Pl.sha (Pl.apl fl (cs.map CmdV.cm) nn.toNat))=H)(hf:Rd w0 r (fl.flatMap Jk))(hfl:fl.length≤cr∧fl.length≤1000000)(hfs:cr≠0→∀ ad,r=some ad→ad.spot=none)(hq:Rd w0 q (cs.flatMap JM))(hl:cs.length≤20)(hok:∀ c∈cs,Q1 w0 c)(hbl:∀ c∈cs,c.d.bs.length≤140737488355328)(hv:Pl.VD oo nn (cs.map CmdV.cm))(ho:oo=fl.length)(hn:nn≤1000000)(hsz:sz≤1000000)(hbn:1≤bnd∧bnd≤65536)(hsp:Rd w0 sp (ks.flatMap encK))(hks:∀ k∈ks,Pl.I64 k.1∧0≤k.2∧k.2≤18446744073709551615)(hkl:ks.length≤1000∧ks.length≤sc)(hA:∀ ds,Pl.Arr fl cs ds→Pl.RwTo sz bnd oo nn fl ks nA ds):C Tryz.prog 12 [.slice r fl.length cr,.agg ⟨dlV oo nn H q cs.length cq⟩,.int .i64 (sz:Int),.int .i64 bnd,.slice sp ks.length sc] w0 fun v w'=>∃ (p:Option Addr) (cap g:Nat) (b:Blk) (pa:Option Addr) (ca:Nat) (pk:Int),v=.tuple ⟨[.slice p (Pl.apl fl (cs.map CmdV.cm) nn.toNat).length cap,.agg ⟨[.slice pa nA ca,.bool true,.int .i64 pk]⟩,.agg ⟨[.int .i64 0,.int .i64 0]⟩]⟩∧pk≤max 0 bnd∧Acc 5 1 p (Pl.apl fl (cs.map CmdV.cm) nn.toNat).length cap ((Pl.apl fl (cs.map CmdV.cm) nn.toNat).flatMap Jk) g b∧Mem w0 w' No [(g,b)]:=by
 have hlens:=hv.lens
 obtain ⟨nnn,hnn⟩:∃ x:Nat,nn=x:=⟨nn.toNat,by omega⟩
 have hnl:(Pl.apl fl (cs.map CmdV.cm) nn.toNat).length=nnn:=by rw [Yq]; omega
 refine C_o Tryz.func12 fun κ _ Je Jc hm=>?_
 refine au 2 ?_
 refine bT hm fun bx w hm=>?_
 refine au 1 ?_
 refine aT hm fun m11 w hm=>?_
 refine aT hm fun m12 w hm=>?_
 refine au 5 ?_
 refine Ja rfl rfl (Jm (s:=67) (vs:=dlV oo nn H _ _ _) rfl ag26.h (hm.nt 2 rfl) rfl) ?_
 have hcon:=v_convert oo nn q cq cs _ (hq.Jj hm.to) hl (fun c hc=>Q1.mono (hok c hc) hm.to) hbl hv r cr fl (hf.Jj hm.to) hfl hfs ho hn
 rw [hH] at hcon
 refine cT rfl rfl rfl hcon fun v w hR=>?_
 obtain ⟨ds,p_d,n_d,cap_d,g_d,b_d,B_d,rfl,ha_d,har,hB_d,hmc⟩:=hR
 obtain rfl:=ha_d.QB Jf (by decide)
 replace hm:=hm.VZ hmc
 obtain ⟨hvd,hap,-⟩:=arr_vd ho hv har
 obtain ⟨f,N,kid,E,hkid,hk64,hfe,hN,hle,hlf,hsl,h0,hrt,hAt,hEt,hEl⟩:=hA _ har
 have hHH:Pl.hh (Pl.sha fl) (Pl.sha (Pl.apl fl (ds.map CmdV.cm) nn.toNat))=H:=by rw [hap]; exact hH
 rw [hHH] at hkid hfe
 have hlv:layV sz bnd oo nn=[.int .i64 (sz:Int),.int .i64 bnd,.int .i64 0,.int .i64 (max oo nn),.int .i64 (f:Int),.int .i64 (2*(N:Int)),.int .i64 ((f:Int)+2*N)]:=by unfold layV; rw [hle,hlf,hsl]; rfl
 refine au 3 ?_
 refine aT hm fun cv w hm=>?_
 refine aT hm fun cf w hm=>?_
 refine st hm 1 fun w hm=>?_
 replace hm:=Xu hm rfl
 refine st hm 0 fun w hm=>?_
 refine au 7 ?_
 refine Ja rfl rfl (JA (c:=false) (y_ne2 rfl rfl iii46) (by decide)) ?_
 refine au 9 ?_
 refine Ja rfl rfl (Jm (s:=67) (vs:=dlV oo nn H _ _ _) rfl ag26.h (hm.nt 1 rfl) rfl) ?_
 refine cA rfl rfl rfl (y_of (sz:Int) bnd oo nn _ _ (by simp only [Pl.I64]; omega) (by simp only [Pl.I64]; omega) (by simp only [Pl.I64]; omega) (by simp only [Pl.I64]; omega)) hm fun w hm=>?_
 refine au 1 ?_
 refine Ja rfl rfl (y_v (J7 rfl rfl) (LM (fun x=>Value.agg ⟨x⟩) hlv)) ?_
 refine Ja rfl rfl (y_v (J7 rfl rfl) (LM (Value.int .i64) hle)) ?_
 refine aT hm fun lw w hm=>?_
 refine st hm 0 fun w hm=>?_
 refine au 7 ?_
 refine Ja rfl rfl (JA (c:=false) (XD rfl rfl) (by decide)) ?_
 refine Qc ?_
 refine QV ?_
 refine Ye rfl rfl rfl ?_
 refine HW_skip rfl ?_
 refine QV ?_
 refine Qb rfl ?_
 refine JT (.pure 0 (.pure 1 (.act 2 (.act 3 (.pure 4 (.pure 5 (.pure 6 (.pure 7 (.pure 8 .done))))))))) (by kernel_rfl) ?_
 refine Ja rfl rfl (Jm (s:=7) (vs:=[_,_,_,_,_,_,_]) rfl ag34.h (hm.nt 0 rfl) rfl) ?_
 refine Ja rfl rfl (Jx rfl) ?_
 refine Jb (l:=[_]) rfl rfl sl88.h z22.h rfl rfl rfl rfl rfl rfl rfl hm trivial fun m7 w hg_m7 hm hh=>?_
 refine cT rfl rfl rfl (y_prepC sz (f+2*N) _ _ _ _ _ _ 0 _ 1 [⟨r,cr,fl⟩] fl _ (Rd.JL (hm.get (k:=0) rfl)) (by intro s9 hs9; rw [Lf.1 hs9]; exact hf.Jj hm.to) (by simp) (by simp) (by omega) (Int.le_refl _) (by omega) (by omega) hrt) fun v w hR=>?_
 obtain ⟨md,Zd,rfl,hz,hmc⟩:=hR
 replace hm:=Mem.callT2 (A:=[_,_,_,_,_,_,_,_]) hm hmc
 refine au 11 ?_
 refine Ja rfl rfl (JA (c:=false) (XD rfl rfl) (by decide)) ?_
 refine au 9 ?_
 refine Ja rfl rfl (Jm (s:=67) (vs:=dlV oo nn H _ _ _) rfl ag26.h (hm.nt 3 rfl) rfl) ?_
 have hcon:=c_run md Zd _ E nA 0 bnd oo nn fl p_d cap_d ds f N kid H sp sc ks _ (Jr.right (A:=B_d) (Jr.right (A:=[_,_,_,_,_,_,_,_]) hm.Jz)) hz hN h0 hHH hkid hk64 hfe hks hkl (fun w9 L9 h9=>have hm9:=Mem.callR (A:=[_,_,_,_,_,_,_,_]) hm h9; ⟨hsp.Jj hm9.to,ha_d.rd hm9 4 rfl,fun c hc=>Ya hm9 (hB_d c hc) (fun e he=>Ly _ (Lw _ he)) (hvd.one c.cm (Ln.2 ⟨c,hc,rfl⟩))⟩) hAt
 refine au 1 ?_
 refine cT rfl rfl rfl hcon fun v w hR=>?_
 obtain ⟨p_a,cap_a,pk,rfl,hpk,Z1,hz1,hmc⟩:=hR
 replace hm:=Mem.callR (A:=[_,_,_,_,_,_,_,_]) hm hmc
 refine aT hm fun rp w hm=>?_
 refine st hm 0 fun w hm=>?_
 refine au 7 ?_
 refine Ja rfl rfl (JA (c:=false) (y_not rfl) (by decide)) ?_
 refine au 6 ?_
 refine JS (.pure 0 (.pure 2 (.pure 3 (.pure 5 (.pure 6 (.act 1 (.pure 4 (.pure 7 (.act 8 (.cut (.act 9 .done))))))))))) (fun j=>j=m11) mix (by kernel_rfl) hm fun w hw hm0 hh=>?_
 have hm:=hm0
 refine au 2 ?_
 refine Ja rfl rfl (y_v (Jh rfl sc3.h (hm0.nd 4 rfl (hm0.ne 4 7 rfl rfl rfl)) rfl) (LM (Value.int .i64) hnn)) ?_
 refine Ja rfl rfl (Jm (s:=3) (vs:=[_,_,_]) rfl ag44.h (hm0.nd 0 rfl (hm0.ne 0 7 rfl rfl rfl)) rfl) ?_
 refine au 1 ?_
 refine ca rfl rfl rfl (o_disk E md Z1 _ (Jr.right (A:=B_d) (Jr.right (A:=[_,_,_,_,_,_,_,_,_]) hm.Jz)) hz1) fun v w hR=>?_
 obtain ⟨p_k,cap_k,g_k,b_k,rfl,ha_k,hmc⟩:=hR
 refine ⟨hh.ext hmc.to,?_⟩
 replace hh:=hh.ext hmc.to
 replace hm:=hm.Jt hmc
 have hkl:=ha_k.le
 refine Ja rfl rfl (y_v (JE (ln:=0) (hn:=nnn) rfl sl22.h rfl ⟨_,rfl⟩ (LL _) (by omega) (fun h=>ha_k.spot h)) (show _=Value.slice p_k nnn cap_k by rw [VR ha_k.spot]; rfl)) ?_
 refine au 1 ?_
 refine QO rfl rfl rfl rfl sz44 rfl hm 8 rfl rfl hh (.inr rfl) fun w hm hh=>?_
 refine au 1 ?_
 refine st hm 7 fun w hm=>?_
 refine au 3 ?_
 refine toR (fin Je rfl (.tmp rfl (.cell rfl (Ju (vs:=[_,_,_]) ag44.h (hm.get (k:=8) rfl) rfl) (.cell rfl (Ju (vs:=[_,_]) ag46.h (hm.get (k:=7) rfl) rfl) .nil))) .more ?_)
 refine ⟨p_k,cap_k,g_k,b_k,p_a,cap_a,pk,by rw [hnl]; rfl,hpk,?_,(hm.pick [0] rfl)⟩
 have ha9:=ha_k.head (i:=nnn) (by omega)
 have hdk:(E.dk.flatMap Jk).take (nnn*1)=(Pl.apl fl (cs.map CmdV.cm) nn.toNat).flatMap Jk:=by rw [← hap,← hEt,Nat.mul_one,show nn.toNat=nnn by omega]; exact (encB_take _ _).symm
 rw [hnl]
 exact hdk▸ha9
end Go.Proofs.YtaehgpeenaomcaaGreat
namespace Go.Proofs.YtaehgpeenaomcaaGreat
open Go Go.Shelf Go.RowKit Go.Lib Go.Sort Go.Proofs
def layXr:Ren:=⟨fun x=>match x with | 185=>51 | 187=>79 | 115=>80 | 253=>81 | 224=>82 | 254=>83 | 255=>113 | 291=>114 | n=>n,fun x=>match x with | 37=>22 | 46=>151 | 146=>184 | 51=>120 | n=>n,fun x=>match x with | 1=>0 | n=>n⟩
theorem layX:Lays.n185 Tryz.prog layXr:={ mixed:=by kernel_rfl,f115:=Tryz.func80,f185:=Tryz.func51,f187:=Tryz.func79,f224:=Tryz.func82,f253:=Tryz.func81,f254:=Tryz.func83,f255:=Tryz.func113,f291:=Tryz.func114,t0:=Tryz.underlying0,a0:=Tryz.isAgg0,z0:=Tryz.sizeOf0,v0:=Tryz.zeroValue0,t3:=Tryz.underlying3,a3:=Tryz.isAgg3,z3:=Tryz.sizeOf3,v3:=Tryz.zeroValue3,t4:=Tryz.underlying4,a4:=Tryz.isAgg4,z4:=Tryz.sizeOf4,v4:=Tryz.zeroValue4,t5:=Tryz.underlying5,a5:=Tryz.isAgg5,z5:=Tryz.sizeOf5,v5:=Tryz.zeroValue5,t9:=Tryz.underlying9,a9:=Tryz.isAgg9,z9:=Tryz.sizeOf9,v9:=Tryz.zeroValue9,t37:=Tryz.underlying22,a37:=Tryz.isAgg22,z37:=Tryz.sizeOf22,v37:=Tryz.zeroValue22,t46:=Tryz.underlying151,a46:=Tryz.isAgg151,z46:=Tryz.sizeOf151,v46:=Tryz.zeroValue151,t51:=Tryz.underlying120,a51:=Tryz.isAgg120,z51:=Tryz.sizeOf120,v51:=Tryz.zeroValue120,t146:=Tryz.underlying184,a146:=Tryz.isAgg184,z146:=Tryz.sizeOf184,v146:=Tryz.zeroValue184,g1:=by kernel_rfl }
end Go.Proofs.YtaehgpeenaomcaaGreat
namespace Go.Cx
open Go Go.Shelf Go.Proofs Go.RowKit
def Gz(w:World):Prop:=∃ m,w.cell? ⟨0,0,none⟩=some (.int .i64 m)
theorem Gz.to{w w':World}(h:Gz w)(hx:Ext No w w'):Gz w':=by
 obtain ⟨m,hm⟩:=h
 have hl:=cell_lt hm
 have he:=hx.same 0 hl id
 refine ⟨m,?_⟩
 unfold World.cell? at hm ⊢
 simp only at hm he ⊢
 rw [he]
 exact hm
theorem bytesOf_nums(xs:List UInt8):Lib.bytesOf (xs.map fun b=>(b.toNat:Int))=xs:=by
 unfold Lib.bytesOf
 rw [List.map_map]
 conv=>rhs; rw [← List.map_id xs]
 refine List.map_congr_left fun b _=>?_
 simp
theorem cellB{w:World}{a:Addr}{xs:List UInt8}(hr:Rd w (some a) (xs.flatMap Jk)):∀ i,i<xs.length→w.cell? (a.add i)=some (.int .u8 ((xs.map fun b=>(b.toNat:Int)).getD i 0)):=fun i hi=>by
 have hne:xs.flatMap Jk≠[]:=fun e=>by rw [nilB e] at hi; simp at hi
 have h1:=hr.1 hne
 obtain ⟨b,o,sp⟩:=a
 simp only at h1
 subst h1
 rw [Lib.add_plain']
 refine hr.2 i _ ?_
 rw [YV,La hi,List.getD_eq_getElem?_getD,Lt,La hi]
 rfl
theorem bxI{P:Program}{ρ:Ren}(L:Lays.n185 P ρ)(hg0:ρ.g 1=0)(a1 a2:Addr)(c1 c2:Nat)(xs ys:List UInt8)(w0:World)(hp:Rd w0 (some a1) (xs.flatMap Jk))(hq:Rd w0 (some a2) (ys.flatMap Jk))(hl:xs.length≤1000000∧xs.length≤c1)(h2:ys.length≤1000000)(hg:Gz w0) :
 C P (ρ.f 185) [.slice (some a1) xs.length c1,.slice (some a2) ys.length c2] w0 fun v w'=>v=.int .i64 (Lib.index xs ys)∧Ext No w0 w':=by
 obtain ⟨m,hm⟩:=hg
 refine Calls.mono (Any.bytes_Index_at L a1 a2 xs.length c1 ys.length c2 (xs.map fun b=>(b.toNat:Int)) (ys.map fun b=>(b.toNat:Int)) m w0 (Lj _) (Lj _) ?_ ?_ (cellB hp) (cellB hq) hl.2 (by omega) (by omega) (by rw [hg0]; exact hm)) fun e w' h=>?_
 · intro x hx
   obtain ⟨b,_,rfl⟩:=Ln.1 hx
   have:=b.toNat_lt
   omega
 · intro x hx
   obtain ⟨b,_,rfl⟩:=Ln.1 hx
   have:=b.toNat_lt
   omega
 · obtain ⟨rfl,q,rfl⟩:=h
   refine ⟨_,rfl,?_,drewN_ext q w0⟩
   rw [bytesOf_nums,bytesOf_nums]
end Go.Cx
namespace Go.Proofs.YtaehgpeenaomcaaGreat
open Go Go.Cx
end Go.Proofs.YtaehgpeenaomcaaGreat
namespace Go.Pl
open Go Go.Cx Go.Proofs.YtaehgpeenaomcaaGreat
def cpl:List UInt8→List UInt8→Nat
 | x::xs,y::ys=>if x=y then Pl.cpl xs ys+1 else 0
 | _,_=>0
def mtF(f:List UInt8)(k:Int)(bs:List UInt8):Int×Int:=
 if k<1∨(bs.length:Int)<k then (-1,0)
 else if Lib.index f (bs.take k.toNat)<0 then (-1,0)
 else (Lib.index f (bs.take k.toNat),((k.toNat+Pl.cpl (bs.drop k.toNat) (f.drop ((Lib.index f (bs.take k.toNat)).toNat+k.toNat)):Nat):Int))
def flC(g:List UInt8)(p fr:Nat):List Pl.Cm:=if fr<p then [⟨2,fr,0,0,(g.drop fr).take (p-fr)⟩] else []
def mkC(f g:List UInt8)(k:Int):Nat→Nat→Nat→List Pl.Cm
 | 0,p,fr=>Pl.flC g p fr
 | n+1,p,fr=>if p<g.length then (if (Pl.mtF f k (g.drop p)).1<0 then Pl.mkC f g k n (p+1) fr else Pl.flC g p fr++(⟨1,p,(Pl.mtF f k (g.drop p)).1,(Pl.mtF f k (g.drop p)).2,[]⟩::Pl.mkC f g k n (p+(Pl.mtF f k (g.drop p)).2.toNat) (p+(Pl.mtF f k (g.drop p)).2.toNat))) else Pl.flC g p fr
end Go.Pl
namespace Go.Proofs.YtaehgpeenaomcaaGreat
open Go Go.Cx
theorem cpl_nil:∀ xs:List UInt8,Pl.cpl xs []=0
 | []=>rfl
 | _::_=>rfl
theorem cpl_le:∀ xs ys:List UInt8,Pl.cpl xs ys≤xs.length∧Pl.cpl xs ys≤ys.length
 | [],ys=>by cases ys <;> simp [Pl.cpl]
 | x::xs,[]=>by simp [Pl.cpl]
 | x::xs,y::ys=>by
  unfold Pl.cpl
  have:=cpl_le xs ys
  split <;> simp only [Li] <;> omega
theorem mtF_pos{f bs:List UInt8}{k:Int}(h:0≤(Pl.mtF f k bs).1):1≤k∧k≤bs.length∧(Pl.mtF f k bs).1=Lib.index f (bs.take k.toNat)∧(Pl.mtF f k bs).2=((k.toNat+Pl.cpl (bs.drop k.toNat) (f.drop ((Lib.index f (bs.take k.toNat)).toNat+k.toNat)):Nat):Int):=by
 unfold Pl.mtF at h ⊢
 split at h
 · simp at h
 · rename_i h1
   rw [LH h1]
   split at h
   · simp at h
   · rename_i h2
     rw [LH h2]
     exact ⟨by omega,by omega,rfl,rfl⟩
theorem m_match(mb mo:Nat)(k:Int)(ra:Addr)(cr:Nat)(f:List UInt8)(w0:World)(hr1:w0.heap[mb]?=some (Blk.row 3 [.int .i64 k]).Jd)(hr2:w0.heap[mo]?=some (Blk.row 22 [.slice (some ra) f.length cr]).Jd)(hf:Rd w0 (some ra) (f.flatMap Jk))(hfl:f.length≤1000000∧f.length≤cr)(p:Option Addr)(cb:Nat)(bs:List UInt8)(hb:Rd w0 p (bs.flatMap Jk))(hbl:bs.length≤1000000∧bs.length≤cb)(hk:Pl.I64 k)(hg:Gz w0):C Tryz.prog 50 [.slice p bs.length cb,.pointer (some ⟨mb,0,none⟩),.pointer (some ⟨mo,0,none⟩)] w0 fun v w'=>v=.tuple ⟨[.int .i64 (Pl.mtF f k bs).1,.int .i64 (Pl.mtF f k bs).2]⟩∧Ext No w0 w':=by
 have hmt:Pl.mtF f k bs=if k<1∨(bs.length:Int)<k then (-1,0) else if (Lib.index f (bs.take k.toNat))<0 then (-1,0) else ((Lib.index f (bs.take k.toNat)),((k.toNat+Pl.cpl (bs.drop k.toNat) (f.drop ((Lib.index f (bs.take k.toNat)).toNat+k.toNat)):Nat):Int)):=rfl
 refine C_o Tryz.func50 fun κ _ Je Jc hm=>?_
 refine au 8 ?_
 rcases (show k<1∨(1≤k∧(bs.length:Int)<k)∨(1≤k∧k≤bs.length) by omega) with hA | ⟨hA,hB⟩ | ⟨hA,hB⟩
 ·
  rw [LI (.inl hA)] at hmt
  refine au 2 ?_
  refine Ja rfl rfl (JA (c:=true) (VO rfl rfl) (LQ hA)) ?_
  refine au 18 ?_
  rw [hmt]
  exact ⟨rfl,hm.to⟩
 ·
  rw [LI (.inr hB)] at hmt
  refine au 2 ?_
  refine Ja rfl rfl (JA (c:=false) (VO rfl rfl) (LN (by omega))) ?_
  refine au 4 ?_
  refine Ja rfl rfl (JA (c:=true) (XE rfl rfl) (LQ (by omega))) ?_
  refine au 13 ?_
  rw [hmt]
  exact ⟨rfl,hm.to⟩
 ·
  rw [LH (by omega)] at hmt
  obtain ⟨kn,rfl⟩:∃ kn:Nat,k=kn:=⟨k.toNat,by omega⟩
  simp only [LD] at hmt
  obtain ⟨x0,hx0⟩:∃ x_,bs[0]?=some x_:=⟨_,La (by omega)⟩
  obtain ⟨qb,qo,rfl⟩:=hb.atI JG (by decide) hx0
  have htl:(bs.take kn).length=kn:=by rw [Lg]; omega
  refine au 2 ?_
  refine Ja rfl rfl (JA (c:=false) (VO rfl rfl) (LN (by omega))) ?_
  refine au 4 ?_
  refine Ja rfl rfl (JA (c:=false) (XE rfl rfl) (LN (by omega))) ?_
  refine au 7 ?_
  refine dw [0,3,6,9,2,13,15] hm fun w hw hm0 hh hm=>?_
  refine au 3 ?_
  refine Ja rfl rfl (y_v (JE (ln:=0) (hn:=kn) rfl sl22.h rfl ⟨_,rfl⟩ (LL _) (by omega) (fun h ad e=>by cases e; rfl)) (show _=Value.slice (some ⟨qb,qo,none⟩) (bs.take kn).length cb by rw [VR (fun _ ad e=>by cases e; rfl),htl]; rfl)) ?_
  refine au 1 ?_
  refine cA rfl rfl rfl (bxI layX rfl ra ⟨qb,qo,none⟩ cr cb f (bs.take kn) _ (hf.Jj hm.to) ((hb.Jj hm.to).takeB kn) hfl (by omega) (hg.to hm.to)) hm fun w hm=>?_
  refine au 10 ?_
  refine cd (fun hc1=>?_) fun hc1=>?_
  ·
   simp only [dT] at hc1
   rw [LI hc1] at hmt
   refine au 9 ?_
   rw [hmt]
   exact ⟨rfl,hm.to⟩
  ·
   simp only [dF] at hc1
   rw [LH hc1] at hmt
   obtain ⟨q,hq⟩:∃ q:Nat,Lib.index f (bs.take kn)=q:=⟨(Lib.index f (bs.take kn)).toNat,by omega⟩
   have hql:Lib.index f (bs.take kn)≤f.length:=Lib.index_le _ _
   rw [hq,LD] at hmt
   rw [hq] at hql
   rw [hq]
   refine au 10 ?_
   refine Jg (ι:=Nat) rfl (ks:=[0,2,4,5,6]) (.cons rfl (.cons rfl (.cons rfl (.cons rfl (.cons rfl .nil))))) (fun n=>[(7,.int .i64 (n:Int))]) (fun n w=>Mem w0 w No []∧n≤bs.length∧n+Pl.cpl (bs.drop n) (f.drop (q+n))=kn+Pl.cpl (bs.drop kn) (f.drop (q+kn))) (fun n=>bs.length-n) kn (⟨hm,by omega,rfl⟩) ⟨rfl,trivial⟩ (fun n w hM=>?_)
   obtain ⟨hm,hn1,hn2⟩:=hM
   refine au 2 ?_
   rcases (show bs.length≤n∨(n<bs.length∧f.length≤q+n)∨(n<bs.length∧q+n<f.length) by omega) with hA1 | ⟨hA1,hB1⟩ | ⟨hA1,hB1⟩
   ·
    have hz0:Pl.cpl (bs.drop n) (f.drop (q+n))=0:=by rw [List.drop_eq_nil_of_le hA1]; rfl
    refine dw [0,3,6,9,12,15,18,21,24,27,30,33,36,39,42,45,48,51,54,57,60,63,66,69,72] hm fun w hw hm0 hh hm=>?_
    refine au 3 ?_
    refine Ja rfl rfl (JA (c:=false) (VO rfl rfl) (LN (by omega))) ?_
    refine au 39 ?_
    have hn9:n=kn+Pl.cpl (bs.drop kn) (f.drop (q+kn)):=by omega
    rw [hmt,← hn9]
    exact ⟨rfl,hm.to⟩
   ·
    have hz0:Pl.cpl (bs.drop n) (f.drop (q+n))=0:=by rw [List.drop_eq_nil_of_le hB1,cpl_nil]
    refine dw [0,3,6,9,12,15,18,21,24,27,30,33,36,39,42,45,48,51,54,57,60,63,66,69,72] hm fun w hw hm0 hh hm=>?_
    refine au 3 ?_
    refine Ja rfl rfl (JA (c:=true) (VO rfl rfl) (LQ (by omega))) ?_
    refine au 6 ?_
    refine Ja rfl rfl (JA (c:=false) (VO rfl rfl) (LN (by omega))) ?_
    refine au 32 ?_
    have hn9:n=kn+Pl.cpl (bs.drop kn) (f.drop (q+kn)):=by omega
    rw [hmt,← hn9]
    exact ⟨rfl,hm.to⟩
   ·
    obtain ⟨x,hix⟩:∃ x_,bs[n]?=some x_:=⟨_,La hA1⟩
    obtain ⟨y,hiy⟩:∃ y_,f[q+n]?=some y_:=⟨_,La hB1⟩
    have hdb:=Pl.drop_cons hix
    have hdf:=Pl.drop_cons hiy
    obtain ⟨qf,qg,hqf⟩:=hf.atI JG (by decide) hiy
    cases hqf
    refine dw [0,3,6,9,12,15,18,21,24,27,30,33,36,39,42,45,48,51,54,57,60,63,66,69,72] hm fun w hw hm0 hh hm=>?_
    refine au 3 ?_
    refine Ja rfl rfl (JA (c:=true) (VO rfl rfl) (LQ (by omega))) ?_
    refine au 6 ?_
    refine Ja rfl rfl (JA (c:=true) (VO rfl rfl) (LQ (by omega))) ?_
    refine au 5 ?_
    refine Ja rfl rfl (J3 rfl sc5.h (hb.Jj hm0.to).nd JG hix rfl) ?_
    refine au 3 ?_
    refine Ja rfl rfl (y_v (J5 rfl rfl (Ql (by omega) (by omega))) (show Value.int .i64 ((q:Int)+n)=.int .i64 ((q+n:Nat):Int) by rw [Int.natCast_add])) ?_
    refine au 1 ?_
    refine Ja rfl rfl (J3 rfl sc5.h (hf.Jj hm0.to).nd JG hiy rfl) ?_
    refine au 4 ?_
    refine cd (fun hc2=>?_) fun hc2=>?_
    ·
     simp only [dT] at hc2
     have hxy:x=y:=UInt8.toNat_inj.1 (by omega)
     refine au 9 ?_
     exact next (n+1) (by omega) ⟨hm,by omega,by rw [← hn2,hdb,hdf,hxy]; simp only [Pl.cpl,if_true,Nat.add_assoc]; omega⟩ ⟨nx n,rfl,rfl,rfl,rfl,rfl,trivial⟩
    ·
     simp only [dF] at hc2
     have hxy:x≠y:=fun h=>hc2 (by rw [h])
     have hz0:Pl.cpl (bs.drop n) (f.drop (q+n))=0:=by rw [hdb,hdf]; simp only [Pl.cpl,LH hxy]
     refine au 15 ?_
     have hn9:n=kn+Pl.cpl (bs.drop kn) (f.drop (q+kn)):=by omega
     rw [hmt,← hn9]
     exact ⟨rfl,hm.to⟩
theorem m_matcher(k:Int)(r:Option Addr)(n cr:Nat)(w0:World):C Tryz.prog 26 [.slice r n cr,.int .i64 k] w0 fun v w'=>∃ mb mo,v=.func (.func 50) #[] ⟨[.pointer (some ⟨mb,0,none⟩),.pointer (some ⟨mo,0,none⟩)]⟩∧Mem w0 w' No [(mb,.row 3 [.int .i64 k]),(mo,.row 22 [.slice r n cr])]:=by
 refine C_o Tryz.func26 fun κ _ Je Jc hm=>?_
 refine au 2 ?_
 refine bT hm fun m1 w hm=>?_
 refine bT hm fun m2 w hm=>?_
 refine au 11 ?_
 exact ⟨_,_,rfl,hm⟩
def okI(y:CmdV):Prop:=Pl.I64 y.k∧Pl.I64 y.to∧Pl.I64 y.fr∧Pl.I64 y.ln∧y.d.bs.length≤1000000
theorem mk_okC{w0 w:World}{X:Bs}{L B:List (Nat×Blk)}{y:CmdV}(hm:Mem w0 w X L)(h:Held B 5 y.d)(hs:∀ e,e∈B→e∈L)(hi:okI y):Q1 w y:=⟨hi.1,hi.2.1,hi.2.2.1,hi.2.2.2.1,h.okN hm hs⟩
end Go.Proofs.YtaehgpeenaomcaaGreat
namespace Go.Cx
open Go Go.Cx Go.Proofs.YtaehgpeenaomcaaGreat
theorem Mem.apartT{w0 w:World}{A Z:List (Nat×Blk)}{p:Option Addr}{cs:List Value}(hm:Mem w0 w No (A++Z))(hR:Rd w0 p cs):cs≠[]→∀ ad,p=some ad→¬ Mn (reals Z) ad.block:=hm.apartZ hR
end Go.Cx
namespace Go.Proofs.YtaehgpeenaomcaaGreat
open Go Go.Cx
theorem mkDrop{w0 w:World}{X:Bs}{q:Nat×Blk}{B1 B2:List (Nat×Blk)}(h:Mem w0 w X (q::(B1++B2))):Mem w0 w X (q::B2):=h.drop (.cons_cons _ (List.sublist_append_right _ _))
theorem m_flush(mf ml mn:Nat)(g:Nat)(b:Blk)(p:Option Addr)(n cap:Nat)(cs:List CmdV)(fr po:Nat)(B:List (Nat×Blk))(s:Option Addr)(c2:Nat)(gg:List UInt8)(w0:World)(hO:Jr w0 ((g,b)::(mf,.row 3 [.int .i64 (fr:Int)])::(ml,.row 24 [.slice p n cap])::(mn,.row 22 [.slice s gg.length c2])::B))(ha:Acc 60 5 p n cap (cs.flatMap JM) g b)(hH:∀ y∈cs,Held B 5 y.d)(hOk:∀ y∈cs,okI y)(hg:Rd w0 s (gg.flatMap Jk))(hgZ:gg.flatMap Jk≠[]→∀ ad,s=some ad→¬ Mn (reals ((g,b)::(mf,.row 3 [.int .i64 (fr:Int)])::(ml,.row 24 [.slice p n cap])::(mn,.row 22 [.slice s gg.length c2])::B)) ad.block)(hgl:gg.length≤c2∧gg.length≤1000000)(hgs:c2≠0→∀ ad,s=some ad→ad.spot=none)(hfr:fr≤gg.length∧po≤gg.length)(hn:n≤1000000):C Tryz.prog 27 [.int .i64 (po:Int),.pointer (some ⟨mf,0,none⟩),.pointer (some ⟨ml,0,none⟩),.pointer (some ⟨mn,0,none⟩)] w0 fun v w'=>v=.tuple ⟨[]⟩∧∃ (p':Option Addr) (n' cap' g':Nat) (b':Blk) (ds:List CmdV) (B':List (Nat×Blk)),Acc 60 5 p' n' cap' (ds.flatMap JM) g' b'∧ds.map CmdV.cm=cs.map CmdV.cm++Pl.flC gg po fr∧(∀ y∈ds,Held B' 5 y.d)∧(∀ y∈ds,okI y)∧n'≤n+1∧(∀ e,e∈B→e∈B')∧Mem w0 w' (Mn (reals ((g,b)::(mf,.row 3 [.int .i64 (fr:Int)])::(ml,.row 24 [.slice p n cap])::(mn,.row 22 [.slice s gg.length c2])::B))) ((g',b')::(mf,.row 3 [.int .i64 (fr:Int)])::(ml,.row 24 [.slice p' n' cap'])::(mn,.row 22 [.slice s gg.length c2])::B'):=by
 have ha_a:=ha
 have hx9:=hO.start.to
 refine Vk Tryz.func27 rfl rfl rfl fun κ _ Je Jc=>?_
 have hm:=hO.start
 refine au 7 ?_
 refine cd (fun hc0=>?_) fun hc0=>?_
 ·
  simp only [dT] at hc0
  have hfc:Pl.flC gg po fr=[(⟨2,fr,0,0,(gg.drop fr).take (po-fr)⟩:Pl.Cm)]:=LI (by omega)
  have hcn:=ha.QB Jf (by decide)
  refine dw [0,3,6,9,12,15,19,22,25,2,28,31] hm fun w hw hm0 hh hm=>?_
  refine au 5 ?_
  refine Ja rfl rfl (y_v (JE (ln:=fr) (hn:=po) rfl sl22.h ⟨_,rfl⟩ ⟨_,rfl⟩ (by omega) (by omega) (fun h=>hgs (by omega))) (show _=Value.slice (slp s c2 fr 1) ((gg.drop fr).take (po-fr)).length (c2-fr) by rw [Lg,Lm]; congr 1; omega)) ?_
  refine Jb (l:=[_]) rfl rfl sl88.h z22.h rfl rfl rfl rfl rfl rfl rfl hm hh fun m6 w hg_m6 hm hh=>?_
  refine ca rfl rfl rfl (Zg (fr:Int) _ 1 [⟨slp s c2 fr 1,c2-fr,(gg.drop fr).take (po-fr)⟩] _ (Rd.JL (hm.get (k:=0) rfl)) (by intro s9 hs9; rw [Lf.1 hs9]; exact (hg.Yu hm.to hgZ).sub hgl.1) (by simp) (by simp only [Lk,LY,Lq,Lg,Lm]; omega)) fun v w hR=>?_
  obtain ⟨p_c,n_c,cap_c,g_c,b_c,rfl,ha_c,hmc⟩:=hR
  refine ⟨hh.ext hmc.to,?_⟩
  replace hh:=hh.ext hmc.to
  replace hm:=hm.Jt hmc
  obtain rfl:=ha_c.J0
  simp only [Lk,LY,Lq] at ha_c
  refine Jb (l:=[_,_,_,_,_]) rfl rfl sl24.h z60.h rfl rfl rfl rfl rfl rfl rfl hm hh fun m8 w hg_m8 hm hh=>?_
  refine au 1 ?_
  refine Jy rfl rfl rfl rfl rfl rfl sl24.h sl24.h z60.h rfl rfl (Rd.JL (hm.get (k:=0) rfl)) rfl ha_a hm 3 rfl (by omega) (by omega) fun p_a cap_a g_a b_a w ha_a hm=>?_
  refine st hm 5 fun w hm=>?_
  refine au 1 ?_
  refine toN (fin Jc rfl .nil .nil ?_)
  refine ⟨rfl,p_a,_,cap_a,g_a,b_a,cs++[mkC (⟨2,fr,0,0,(gg.drop fr).take (po-fr)⟩:Pl.Cm) p_c cap_c],(g_c,b_c)::B,ha_a.to (by rw [Lh,List.flatMap_singleton]; rfl),by rw [hfc,Lx]; rfl,fun y hy=>?_,fun y hy=>?_,by omega,fun e he=>.tail _ he,(hm.Jp [3,4,5,6,1] 7 rfl)⟩
  · exact (Ls.1 hy).elim (fun h=>(hH y h).mono fun e he=>.tail _ he) (fun h=>by rw [Lf.1 h]; exact ha_c.held (Lo))
  · exact (Ls.1 hy).elim (hOk y) (fun h=>by rw [Lf.1 h]; refine ⟨?_,?_,?_,?_,?_⟩ <;> simp only [mkC,Pl.I64,Lg,Lm] <;> omega)
 ·
  simp only [dF] at hc0
  have hfc:Pl.flC gg po fr=[]:=LH (by omega)
  refine au 1 ?_
  refine toN (fin Jc rfl .nil .nil ?_)
  exact ⟨rfl,p,n,cap,g,b,cs,B,ha,by rw [hfc,Lq],hH,hOk,by omega,fun _ h=>h,(hm.Jp [0,1,2,3] 4 rfl)⟩
end Go.Proofs.YtaehgpeenaomcaaGreat
