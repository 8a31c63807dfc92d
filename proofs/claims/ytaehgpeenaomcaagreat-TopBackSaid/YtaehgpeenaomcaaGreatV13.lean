/- Part 14 of the proof of TopBack: ApH ApI ApJ ApK CpA CpB CpC CpD LayX GrE QtA QtB QtC QtD RfA LwA. Conditions: the hypotheses of each theorem. -/
import Derived.Test.YtaehgpeenaomcaaGreatV12
import Derived.Shelf.Sort.Plain
import Derived.Shelf.SlSortCmp.NoneTotal
import Derived.Shelf.SlicesG.Cmp
import Derived.Shelf.Bytes.SlIndexWhole
import Derived.Test.YtaehgpeenaomcaaGreatChecked
set_option maxRecDepth 10000
set_option maxHeartbeats 4000000
set_option linter.unusedVariables false
set_option linter.unusedSimpArgs false
namespace Go.Proofs.YtaehgpeenaomcaaGreat
open Go Go.Cx
theorem rM{g:FuncId}{vs:Ti}{X:Int×Pl.Ap}{K:eH}{pk:Int}{Z:Tf}{w:World}(h:CE Tryz.prog g vs w (fun v w'=>v=.tuple ⟨[]⟩∧X.1=0∧w8 K X.2 pk w w' Z) (fun c w'=>(c=ox X.1∧X.1≠0)∧w8 K X.2 pk w w' Z)) :
 CE Tryz.prog g vs w (fun v w'=>v=.tuple ⟨[]⟩∧∃ Z',(0=X.1∧∃ nT,nT≤max pk K.bnd∧AZ K X.2 nT Z')∧Mem w w' (Mn (ak Z)) Z') (fun c w'=>∃ e,c=ox e∧∃ Z',(e=X.1∧∃ nT,nT≤max pk K.bnd∧AZ K X.2 nT Z')∧Mem w w' (Mn (ak Z)) Z'):=
 h.mono (fun v w ⟨h1,h2,nT,Z',h3,h4,h5⟩=>⟨h1,Z',⟨h2.symm,nT,h3,h4⟩,h5⟩) fun c w ⟨⟨h1,_⟩,nT,Z',h3,h4,h5⟩=>⟨_,h1,Z',⟨rfl,nT,h3,h4⟩,h5⟩
theorem EY(K:eH)(A:Pl.Ap)(pk:Int)(j:Nat)(Zj Zd:Tf)(w0:World)(hK:K.ok)(hs:A3 K A)(hO:Jr w0 (fR K A pk j::(K.F++(Zj++Zd))))(hj:JZ 271 5 K.md (K.f:Int) K.bnd K.kk A.S j Zj)(hz:JV 112 258 5 A.D K.md Zd)(kf:A.st=0→Pl.bw A.D 0 K.oo=K.fl):C Tryz.prog 150 [.pointer (some ⟨K.ma,0,none⟩)] w0 fun v w'=>v=.agg ⟨[.int .i64 0,.int .i64 0]⟩∧w8 K A pk w0 w' (fR K A pk j::(K.F++(Zj++Zd))):=by
 refine Vk Tryz.func150 rfl rfl rfl fun κ _ Je Jc=>?_
 have hm:=hO.start
 refine au 2 ?_
 refine aT hm fun m1 w hm=>?_
 refine au 22 ?_
 refine cd (fun ao=>?_) fun ao=>?_
 ·
  simp only [dT] at ao
  refine au 3 ?_
  refine st hm 0 fun w hm=>?_
  refine au 5 ?_
  exact ⟨rfl,.mk (Int.le_max_left ..) hj hz (hm.Jp [1] 2 rfl)⟩
 ·
  simp only [dF,Classical.not_not] at ao
  refine au 6 ?_
  refine cT rfl rfl rfl (yN 188 [.pointer (some ⟨K.ma,0,none⟩)] (fun e Z9=>e=0∧∃ pX,pX≤max pk K.bnd∧AZ K A pX Z9) _ _ (Jr.right (A:=[_]) hm.Jz) go188 (fun w9 Pf=>CE.of ((A6 K A pk j Zj Zd w9 hK hs Pf hj hz (kf ao)).mono fun v w' ⟨h1,nT,Z',h3,h4,h5⟩=>⟨h1,Z',⟨rfl,nT,h3,h4⟩,h5⟩))) fun v w hR=>?_
  obtain ⟨e9,Z9,rfl,⟨rfl,pX,rN,eC⟩,ae⟩:=hR
  replace hm:=Mem.JQ (A:=[_]) hm ae
  refine au 1 ?_
  refine st hm 0 fun w hm=>?_
  refine au 4 ?_
  exact ⟨rfl,pX,Z9,rN,eC,(hm.Jp [] 1 rfl)⟩
theorem Pg(K:eH)(A:Pl.Ap)(pk:Int)(j:Nat)(Zj Zd:Tf)(w0:World)(hK:K.ok)(hs:A3 K A)(hO:Jr w0 (fR K A pk j::(K.F++(Zj++Zd))))(hj:JZ 271 5 K.md (K.f:Int) K.bnd K.kk A.S j Zj)(hz:JV 112 258 5 A.D K.md Zd):C Tryz.prog 151 [.pointer (some ⟨K.ma,0,none⟩)] w0 fun v w'=>v=.tuple ⟨[.bool (decide ((A.step K.f K.N K.bnd K.kk K.cm).1=0)&&decide ((A.step K.f K.N K.bnd K.kk K.cm).2.st=2)),.int .i64 (A.step K.f K.N K.bnd K.kk K.cm).1]⟩∧w8 K (A.step K.f K.N K.bnd K.kk K.cm).2 pk w0 w' (fR K A pk j::(K.F++(Zj++Zd))):=by
 have fB:=hs.nx
 have fy:=hK.mx
 have hlen:Pl.first K.bnd (K.xs.map aa.cm) (K.xs.map aa.cm).length=Pl.JF K.bnd K.cm:=by rw [hK.xc]; rfl
 refine Vk Tryz.func151 rfl rfl rfl fun κ _ Je Jc=>?_
 have hm:=hO.start
 refine au 26 ?_
 refine cd (fun ao=>?_) fun ao=>?_
 ·
  simp only [dT] at ao
  have cF:(A.step K.f K.N K.bnd K.kk K.cm)=(0,A):=by unfold Pl.Ap.step; rw [LI ao]
  refine au 9 ?_
  rw [cF]
  exact ⟨by simp [ao],.mk (Int.le_max_left ..) hj hz (hm.Jp [0] 1 rfl)⟩
 ·
  simp only [dF] at ao
  refine au 20 ?_
  refine cd (fun aD=>?_) fun aD=>?_
  ·
   have aD:=aD
   refine au 10 ?_
   refine cT rfl rfl rfl (yN 190 [.pointer (some ⟨K.ma,0,none⟩)] (fun e Z9=>e=A.fK.1∧∃ pX,pX≤max pk K.bnd∧AZ K A.fK.2 pX Z9) _ _ hm.Jz Te (fun w9 Pf=>rM (O5 K A pk j Zj Zd w9 hK hs Pf hj hz aD))) fun v w hR=>?_
   obtain ⟨e9,Z9,rfl,⟨rfl,pX,rN,j9,Zj9,WV,rfl,Rg,eC⟩,ae⟩:=hR
   replace hm:=Mem.JQ (A:=[]) hm ae
   have cF:(A.step K.f K.N K.bnd K.kk K.cm)=A.fK:=by unfold Pl.Ap.step; rw [LH ao,LI aD]
   refine Ja rfl rfl (J4 rfl)<|Qc<|QV<|Qb rfl<|JT (.pure 0 (.pure 1 (.pure 2 (.pure 3 (.pure 4 (.pure 5 (.pure 6 (.pure 7 (.pure 8 (.pure 9 (.pure 10 (.pure 11 .done)))))))))))) Te<|Ja rfl rfl (Jx rfl)<|Ja rfl rfl (V3 rfl rfl)<|Ja rfl rfl (Jx rfl)<|JK rfl rfl rfl (fun hc=>(Jx rfl))<|JK rfl rfl rfl (fun hc=>(oI (gx hc rfl)))<|JK rfl rfl rfl (fun hc=>(Jv (gx hc rfl) fo183_4.h))<|JK rfl rfl rfl (fun hc=>(Jh (gx hc rfl) sc3.h (hm.nt 0 rfl) rfl))<|JK rfl rfl rfl (fun hc=>(V3 (gx hc rfl) rfl))<|Ja rfl rfl (kU rfl rfl rfl)<|Ja rfl rfl (Jx rfl)<|Ja rfl rfl (J4 rfl)<|Ja rfl rfl (J4 rfl)<|Qc<|QV<|iI rfl<|dD (fin Je rfl (.tmp rfl (.tmp rfl .nil)) .more ?_)
   rw [cF]
   exact ⟨rfl,.mk rN Rg eC (hm.Jp [0] 1 rfl)⟩
  ·
   have aD:=aD
   refine au 1 ?_
   refine dw [0,3,6,9,12,15,18,21,25,27,30] hm fun w hw ar hh hm=>?_
   refine au 8 ?_
   refine cB rfl rfl rfl (C.as (v:=.int .i64 (Pl.JF K.bnd K.cm)) (ug K.mp K.bnd K.pf K.cf K.pb K.cb K.pl K.cl K.xs _ (hK.pl _ (Xs (A:=[_]) hm.Jz)).1 (hK.pl _ (Xs (A:=[_]) hm.Jz)).2.1 (hK.pl _ (Xs (A:=[_]) hm.Jz)).2.2.1 (hK.pl _ (Xs (A:=[_]) hm.Jz)).2.2.2.1 hK.fw Ta) (by rw [hlen])) hm hh fun w hm hh=>au 4 ?_
   refine cd (fun bg=>?_) fun bg=>?_
   ·
    simp only [dT] at bg
    refine au 10 ?_
    refine cT rfl rfl rfl (yN 191 [.pointer (some ⟨K.ma,0,none⟩)] (fun e Z9=>e=(A.fin K.f K.N K.bnd K.kk K.cm).1∧∃ pX,pX≤max pk K.bnd∧AZ K (A.fin K.f K.N K.bnd K.kk K.cm).2 pX Z9) _ _ hm.Jz Te (fun w9 Pf=>rM (WU K A pk j Zj Zd w9 hK hs Pf hj hz aD ao bg))) fun v w hR=>?_
    obtain ⟨e9,Z9,rfl,⟨rfl,pX,rN,j9,Zj9,WV,rfl,Rg,eC⟩,ae⟩:=hR
    replace hm:=Mem.JQ (A:=[]) hm ae
    have cF:(A.step K.f K.N K.bnd K.kk K.cm)=(A.fin K.f K.N K.bnd K.kk K.cm):=by unfold Pl.Ap.step; rw [LH ao,LH (by rw [aD]; decide),LI bg]
    refine Ja rfl rfl (J4 rfl)<|Qc<|QV<|Qb rfl<|JT (.pure 0 (.pure 1 (.pure 2 (.pure 3 (.pure 4 (.pure 5 (.pure 6 (.pure 7 (.pure 8 (.pure 9 (.pure 10 (.pure 11 .done)))))))))))) Te<|Ja rfl rfl (Jx rfl)<|Ja rfl rfl (V3 rfl rfl)<|Ja rfl rfl (Jx rfl)<|JK rfl rfl rfl (fun hc=>(Jx rfl))<|JK rfl rfl rfl (fun hc=>(oI (gx hc rfl)))<|JK rfl rfl rfl (fun hc=>(Jv (gx hc rfl) fo183_4.h))<|JK rfl rfl rfl (fun hc=>(Jh (gx hc rfl) sc3.h (hm.nt 0 rfl) rfl))<|JK rfl rfl rfl (fun hc=>(V3 (gx hc rfl) rfl))<|Ja rfl rfl (kU rfl rfl rfl)<|Ja rfl rfl (Jx rfl)<|Ja rfl rfl (J4 rfl)<|Ja rfl rfl (J4 rfl)<|Qc<|QV<|iI rfl<|dD (fin Je rfl (.tmp rfl (.tmp rfl .nil)) .more ?_)
    rw [cF]
    exact ⟨rfl,.mk rN Rg eC (hm.Jp [0] 1 rfl)⟩
   ·
    simp only [dF] at bg
    have jW:A.nx<Pl.JF K.bnd K.cm:=by omega
    refine au 6 ?_
    refine cT rfl rfl rfl (yN 189 [.pointer (some ⟨K.ma,0,none⟩)] (fun e Z9=>e=(A.exec K.f K.N K.bnd K.kk K.cm).1∧∃ pX,pX≤max pk K.bnd∧AZ K (A.exec K.f K.N K.bnd K.kk K.cm).2 pX Z9) _ _ hm.Jz Te (fun w9 Pf=>rM (O9 K A pk j Zj Zd w9 hK hs Pf hj hz jW))) fun v w hR=>?_
    obtain ⟨e9,Z9,rfl,⟨rfl,pX,rN,j9,Zj9,WV,rfl,Rg,eC⟩,ae⟩:=hR
    replace hm:=Mem.JQ (A:=[]) hm ae
    have cF:(A.step K.f K.N K.bnd K.kk K.cm)=(A.exec K.f K.N K.bnd K.kk K.cm):=by unfold Pl.Ap.step; rw [LH ao,LH (by rw [aD]; decide),LH bg]
    refine Ja rfl rfl (J4 rfl)<|Qc<|QV<|Qb rfl<|JT (.pure 0 (.pure 1 (.pure 2 (.pure 3 (.pure 4 (.pure 5 (.pure 6 (.pure 7 (.pure 8 (.pure 9 (.pure 10 (.pure 11 .done)))))))))))) Te<|Ja rfl rfl (Jx rfl)<|Ja rfl rfl (V3 rfl rfl)<|Ja rfl rfl (Jx rfl)<|JK rfl rfl rfl (fun hc=>(Jx rfl))<|JK rfl rfl rfl (fun hc=>(oI (gx hc rfl)))<|JK rfl rfl rfl (fun hc=>(Jv (gx hc rfl) fo183_4.h))<|JK rfl rfl rfl (fun hc=>(Jh (gx hc rfl) sc3.h (hm.nt 0 rfl) rfl))<|JK rfl rfl rfl (fun hc=>(V3 (gx hc rfl) rfl))<|Ja rfl rfl (kU rfl rfl rfl)<|Ja rfl rfl (Jx rfl)<|Ja rfl rfl (J4 rfl)<|Ja rfl rfl (J4 rfl)<|Qc<|QV<|iI rfl<|dD (fin Je rfl (.tmp rfl (.tmp rfl .nil)) .more ?_)
    rw [cF]
    exact ⟨rfl,.mk rN Rg eC (hm.Jp [0] 1 rfl)⟩
theorem WW(K:eH)(A:Pl.Ap)(pk:Int)(j:Nat)(Zj Zd:Tf)(w0:World)(hK:K.ok)(hs:A3 K A)(hO:Jr w0 (fR K A pk j::(K.F++(Zj++Zd))))(hj:JZ 271 5 K.md (K.f:Int) K.bnd K.kk A.S j Zj)(hz:JV 112 258 5 A.D K.md Zd)(I:Pl.Ap→Prop)(μ:Pl.Ap→Nat)(kf:A.st=0→Pl.bw A.D 0 K.oo=K.fl)(hA:I A)(hI:∀ A1,I A1→A3 K A1)(hn:∀ A1,I A1→(A1.step K.f K.N K.bnd K.kk K.cm).1=0→(A1.step K.f K.N K.bnd K.kk K.cm).2.st≠2→I (A1.step K.f K.N K.bnd K.kk K.cm).2∧μ (A1.step K.f K.N K.bnd K.kk K.cm).2<μ A1):C Tryz.prog 112 [.pointer (some ⟨K.ma,0,none⟩)] w0 fun v w'=>∃ A1,I A1∧((A1.step K.f K.N K.bnd K.kk K.cm).1≠0∨(A1.step K.f K.N K.bnd K.kk K.cm).2.st=2)∧v=.agg ⟨[.int .i64 (A1.step K.f K.N K.bnd K.kk K.cm).1,.int .i64 0]⟩∧w8 K (A1.step K.f K.N K.bnd K.kk K.cm).2 pk w0 w' (fR K A pk j::(K.F++(Zj++Zd))):=by
 refine Vk Tryz.func112 rfl rfl rfl fun κ _ Je Jc=>?_
 have hm:=hO.start
 refine au 2 ?_
 refine aT hm fun m1 w hm=>?_
 refine au 6 ?_
 refine cT rfl rfl rfl (EY K A pk j Zj Zd _ hK hs (Jr.right (A:=[_]) hm.Jz) hj hz kf) fun v w hR=>?_
 obtain ⟨rfl,pX,Z9,rN,eC,ae⟩:=hR
 replace hm:=Mem.JQ (A:=[_]) hm ae
 refine aT hm fun m2 w hm=>?_
 refine st hm 0 fun w hm=>?_
 refine au 6 ?_
 refine Ja rfl rfl (JA (c:=false) (jo rfl rfl iii46) Tb)<|au 6 ?_
 refine Jg (ι:=Pl.Ap×Int×List (Nat×ag)) rfl (ks:=[0,2]) Tn (fun x=>[]) (fun x w=>Mem w0 w (Mn (ak (fR K A pk j::(K.F++(Zj++Zd))))) ((m1,.row 46 [.int .i64 0,.int .i64 0])::x.2.2)∧I x.1∧AZ K x.1 x.2.1 x.2.2∧x.2.1≤max pk K.bnd) (fun x=>μ x.1) (A,pX,Z9) (⟨(hm.Jp [1] 2 rfl),hA,eC,rN⟩) trivial (fun x w hM=>?_)
 obtain ⟨A1,FP,Z1⟩:=x
 obtain ⟨hm,hI1,bZ,HB⟩:=hM
 obtain ⟨j1,Rf,FR,hZ1,dW,WX⟩:=bZ
 simp only at hm hI1 hZ1 dW WX HB
 subst hZ1
 refine au 4 ?_
 refine cT rfl rfl rfl (Pg K A1 FP j1 Rf FR _ hK (hI _ hI1) (Jr.right (A:=[_]) hm.Jz) dW WX) fun v w hR=>?_
 obtain ⟨rfl,pk2,Z2,nO,da,ae⟩:=hR
 replace hm:=Mem.JQ (A:=[_]) hm ae
 refine au 16 ?_
 refine cd (fun ao=>?_) fun ao=>?_
 ·
  have N5:(A1.step K.f K.N K.bnd K.kk K.cm).1≠0∨(A1.step K.f K.N K.bnd K.kk K.cm).2.st=2:=(Decidable.em ((A1.step K.f K.N K.bnd K.kk K.cm).1=0)).elim (fun h9=>.inr (by rw [h9] at ao; simpa using ao)) .inl
  refine au 4 ?_
  refine st hm 0 fun w hm=>?_
  refine au 7 ?_
  exact ⟨A1,hI1,N5,rfl,pk2,Z2,Ta,da,(hm.Jp [] 1 rfl)⟩
 ·
  have N5:(A1.step K.f K.N K.bnd K.kk K.cm).1=0:=by simpa using (LS.1 ao).2
  have Bv:(A1.step K.f K.N K.bnd K.kk K.cm).2.st≠2:=by have h9:=(LS.1 ao).1; rw [N5] at h9; simpa using h9
  refine au 2 ?_
  have sK:=hn A1 hI1 N5 Bv
  exact next ((A1.step K.f K.N K.bnd K.kk K.cm).2,_,_) sK.2 ⟨(hm.Jp [0] 1 rfl),sK.1,da,Td⟩ Tm
structure NwOk(b oo nn:Int)(fl:Th)(cm:List Pl.Cm):Prop where
 few:cm.length≤100
 ol:oo=fl.length
 vd:Pl.VD oo nn cm
 sf:Pl.Safe cm
 on:0≤oo∧oo≤1000000∧0≤nn∧nn≤1000000
 fw:Pl.ZF b cm
 mx:Pl.first b cm cm.length≤1000000000
 bn:1≤b∧b≤65536
 ck:∀ p∈Pl.steps b 0 cm,0≤p.2.to∧(p.2.k=1→0≤p.2.fr∧0≤p.2.ln∧p.2.fr+p.2.ln≤oo∧p.2.to+p.2.ln≤nn∧p.2.ln≤b)∧(p.2.k≠1→p.2.to+p.2.bs.length≤nn∧(p.2.bs.length:Int)≤b)
 tot:(Pl.total 0 (Pl.targets cm)).isSome=true
theorem eH.WY{K:eH}{gs gf gb gl:Nat}{bs bf bb bl:ag}(hN:NwOk K.bnd K.oo K.nn K.fl K.cm)(hx:K.xs.map aa.cm=K.cm)(n0:K.N≠0)(k64:0≤K.kk∧K.kk≤18446744073709551615)
 (hs:(gs,bs)∈K.F) (ha:Acc 60 5 K.q K.cs.length K.cq (K.cs.flatMap JM) gs bs) (hB:∀ y∈K.cs,bh K.F 5 y.d) (hp:(K.mp,.row 286 (MG K.bnd K.pf (J2 K.bnd (K.xs.map aa.cm)).length K.cf K.pb K.cb K.pl K.xs.length K.cl))∈K.F)
 (hf:(gf,bf)∈K.F) (haf:Acc 3 1 K.pf (J2 K.bnd (K.xs.map aa.cm)).length K.cf ((J2 K.bnd (K.xs.map aa.cm)).flatMap Go.Cx.encI) gf bf) (hb:(gb,bb)∈K.F) (nY:Acc 3 1 K.pb (J2 K.bnd (K.xs.map aa.cm)).length K.cb ((beforeL (K.xs.map aa.cm)).flatMap Go.Cx.encI) gb bb)
 (hl:(gl,bl)∈K.F) (N7:Acc 60 5 K.pl K.xs.length K.cl (K.xs.flatMap JM) gl bl) (hX:∀ y∈K.xs,bh K.F 5 y.d):K.ok where
 dl:=fun w hZ=>⟨ha.Fy hZ hs,fun c hc=>Ya hZ.start (hB c hc) (fun _ h=>h) (hN.vd.one c.cm (Ln.2 ⟨c,hc,rfl⟩))⟩
 pl:=fun w hZ=>⟨hZ.1 _ hp rfl,haf.Fy hZ hf,nY.Fy hZ hb,N7.Fy hZ hl,fun x h9=>⟨(hX x h9).jO hZ.start (fun _ h=>h),V5 (o:=K.oo) (n:=K.nn) (by rw [hx]; exact hN.vd) (by have:=hN.on; omega) x h9⟩⟩
 xc:=hx
 few:=by have:=hN.few; unfold eH.cm at this; rw [Lj] at this; exact this
 ol:=hN.ol
 vd:=hN.vd
 on:=hN.on
 fw:=by rw [hx]; exact hN.fw
 mx:=by rw [hx]; exact ⟨by have:=hN.few; omega,hN.mx⟩
 bn:=hN.bn
 n0:=n0
 k64:=k64
 ck:=hN.ck
end Go.Proofs.YtaehgpeenaomcaaGreat
namespace Go.Pl
open Go Go.Cx Go.Proofs.YtaehgpeenaomcaaGreat
def VL(D:Pl.Dv)(S:Pl.Jn)(n:Int):Pl.Ap:=if S.has=false then ⟨D,S,0,0,false⟩ else ⟨D,S,if (Pl.dG S).cu=n then 2 else 1,(Pl.dG S).cu,true⟩
def EZ(b:Int)(cs:List Pl.Cm)(r:Pl.Rc):Prop:=(0≤r.cu∧r.cu<Pl.JF b cs)∧r.of=(Pl.JB b cs r.cu.toNat).to∧(r.bs.length:Int)=Pl.aw (Pl.JB b cs r.cu.toNat)
end Go.Pl
namespace Go.Proofs.YtaehgpeenaomcaaGreat
open Go Go.Cx
theorem bl6{b oo nn:Int}{fl:Th}{cs:List aa}(hN:NwOk b oo nn fl (cs.map aa.cm)):∀ c∈cs,c.d.bs.length≤1000000:=by
 intro c hc
 have h1:=Pl.Jw (hN.vd.one c.cm (Ln.2 ⟨c,hc,rfl⟩))
 have h2:=Pl.Jl h1.1
 have bM:=hN.on
 show c.cm.bs.length≤1000000
 rcases h2.1 with h | h
 · rw [h.2.2.1]; simp
 · omega
theorem apF{w0 w:World}{X:Bs}{A M Z B1 B2:Tf}(h:Mem w0 w X ((A++M)++((Z++B1)++B2))):Mem w0 w X (A++((M++(B1++B2))++Z)):=by
 refine h.perm ?_
 rw [Lp]
 refine List.Perm.append_left _ ?_
 rw [Lp,Lp]
 exact List.Perm.append_left _<|List.perm_append_comm
theorem E0(K:eH)(A:Pl.Ap)(pk:Int)(j:Nat)(w0:World)(hK:K.ok)(hr:w0.heap[K.ma]?=some (ag.row 183 (Rb K.md K.bnd pk (aZ K.oo K.nn K.H K.q K.cs.length K.cq) K.mp j A.st A.nx A.sg)).Jd)(hF:Jr w0 K.F)(r:Pl.Rc)(p:Tg)(cap:Nat)(rY:0≤r.cu∧r.cu<Pl.JF K.bnd K.cm)(fb:r.of=(Pl.JB K.bnd K.cm r.cu.toNat).to)(vq:(r.bs.length:Int)=Pl.aw (Pl.JB K.bnd K.cm r.cu.toNat)):C Tryz.prog 148 [.pointer (some ⟨K.ma,0,none⟩),.agg ⟨Bk r p r.bs.length cap⟩] w0 fun v w'=>v=.bool true∧Ext No w0 w':=by
 have fy:=hK.mx
 have hlen:Pl.first K.bnd (K.xs.map aa.cm) (K.xs.map aa.cm).length=Pl.JF K.bnd K.cm:=by rw [hK.xc]; rfl
 have Fx:0≤Pl.JF K.bnd K.cm:=by rw [← hlen]; exact Pl.VG _ hK.fw
 refine aH Tryz.func148 fun κ _ Je Jc hm=>?_
 refine au 2 ?_
 refine bT hm fun rb w hm=>?_
 refine au 3 ?_
 refine Xc (ι:=Nat×Int×Option Addr×Nat) rfl (ks:=[0,3,4]) Tn (fun x=>[(5,.pointer (some ⟨x.1,0,none⟩)),(6,.bool true)]) (fun x w=>Mem w0 w No [(x.1,.row 289 (.int .i64 r.cu::.int .i64 x.2.1::fV (Pl.JB K.bnd K.cm r.cu.toNat) x.2.2.1 (Pl.JB K.bnd K.cm r.cu.toNat).bs.length x.2.2.2)),(rb,.row 225 (Bk r p r.bs.length cap))]) ?_ (fun x w hM=>?_)
 ·
  refine JS (.pure 0 (.pure 1 (.pure 2 (.pure 3 (.pure 4 (.pure 5 (.act2 6 (.pure 7 (.pure 8 (.pure 9 (.act 10 (.cut (.act 11 (.pure 12 .done))))))) 10 (.act 6 (.pure 7 (.pure 8 (.pure 9 (.cut (.act 11 (.pure 12 .done)))))))))))))) No fP Te hm fun w hw ar hh=>?_
  have hm:=ar
  refine au 6 ?_
  refine QN ?_ ?_
  ·
   refine ca rfl rfl rfl (Hg r.cu K.mp K.bnd K.pf K.cf K.pb K.cb K.pl K.cl K.xs _ (hK.pl _ (hF.ext hm.to)).1 (hK.pl _ (hF.ext hm.to)).2.1 (hK.pl _ (hF.ext hm.to)).2.2.1 (hK.pl _ (hF.ext hm.to)).2.2.2.1 hK.fw Ta (hK.pl _ (hF.ext hm.to)).2.2.2.2 (by have:=hK.bn; simp only [Pl.aA]; omega) (by simp only [Pl.aA]; omega)) fun v w hR=>?_
   obtain ⟨ix,kx,d,bU,nm,aB,cQ,cL,rfl,ay,ae,cR,jb3⟩:=hR
   obtain rfl:=ay.J0
   refine ⟨hh.ext ae.to,?_⟩
   replace hh:=hh.ext ae.to
   replace hm:=hm.Jt ae
   obtain ⟨rfl,Z8,cF⟩:=cR (by rw [hlen]; exact rY)
   have hd:Pl.JB K.bnd K.cm r.cu.toNat=d:=by unfold Pl.JB; rw [← hK.xc,cF]; rfl
   refine au 2 ?_
   refine Ja rfl rfl (JA (c:=true) (J7 rfl rfl) (LQ (by rw [hlen]; exact rY)))<|al hm hh fun st w KQ hm hh=>?_
   refine au 1 ?_
   refine Vi rfl rfl rfl rfl sz289 rfl hm 0 rfl rfl fun w hm=>au 2 ?_
   exact Qt (st,kx,bU,aB) (by simp only; rw [hd]; exact (hm.pick [0,2] rfl)) Tm
  ·
   refine al hm hh fun st w KQ hm hh=>?_
   refine ca rfl rfl rfl (Hg r.cu K.mp K.bnd K.pf K.cf K.pb K.cb K.pl K.cl K.xs _ (hK.pl _ (hF.ext hm.to)).1 (hK.pl _ (hF.ext hm.to)).2.1 (hK.pl _ (hF.ext hm.to)).2.2.1 (hK.pl _ (hF.ext hm.to)).2.2.2.1 hK.fw Ta (hK.pl _ (hF.ext hm.to)).2.2.2.2 (by have:=hK.bn; simp only [Pl.aA]; omega) (by simp only [Pl.aA]; omega)) fun v w hR=>?_
   obtain ⟨ix,kx,d,bU,nm,aB,cQ,cL,rfl,ay,ae,cR,jb3⟩:=hR
   obtain rfl:=ay.J0
   refine ⟨hh.ext ae.to,?_⟩
   replace hh:=hh.ext ae.to
   replace hm:=hm.Jt ae
   obtain ⟨rfl,Z8,cF⟩:=cR (by rw [hlen]; exact rY)
   have hd:Pl.JB K.bnd K.cm r.cu.toNat=d:=by unfold Pl.JB; rw [← hK.xc,cF]; rfl
   refine au 2 ?_
   refine Ja rfl rfl (JA (c:=true) (J7 rfl rfl) (LQ (by rw [hlen]; exact rY)))<|au 1 ?_
   refine Vi rfl rfl rfl rfl sz289 rfl hm 1 rfl rfl fun w hm=>au 2 ?_
   exact Qt (st,kx,bU,aB) (by simp only; rw [hd]; exact (hm.pick [1,2] rfl)) Tm
 ·
  obtain ⟨st,kx,bU,aB⟩:=x
  have hm:=hM
  simp only at hm
  generalize hd:(Pl.JB K.bnd K.cm r.cu.toNat)=d at *
  refine au 4 ?_
  refine cA rfl rfl rfl (Vd d bU aB _) hm fun w hm=>aT hm fun tg w hm=>?_
  refine Vi rfl rfl rfl rfl sz32 rfl hm 0 rfl rfl fun w hm=>au 13 ?_
  refine dw [0,3,6,9,12,15,19,21,24,27,30,33,36,39,42,45,48,51,54] hm fun w hw ar hh hm=>?_
  refine au 6 ?_
  refine cB rfl rfl rfl (C.as (v:=.int .i64 (Pl.JF K.bnd K.cm)) (ug K.mp K.bnd K.pf K.cf K.pb K.cb K.pl K.cl K.xs _ (hK.pl _ (hF.ext hm.to)).1 (hK.pl _ (hF.ext hm.to)).2.1 (hK.pl _ (hF.ext hm.to)).2.2.1 (hK.pl _ (hF.ext hm.to)).2.2.2.1 hK.fw Ta) (by rw [hlen])) hm hh fun w hm hh=>Ja rfl rfl (JA (c:=true) (Ry rfl rfl) (LQ Ta))<|au 8 ?_
  refine Ja rfl rfl (JA (c:=true) (sD rfl rfl iii32) (LQ ⟨fb.symm,vq.symm⟩))<|au 6 ?_
  exact ⟨rfl,hm.to⟩
theorem WZ(D:Pl.Dv)(md:Nat)(Z:Tf)(bnd oo nn:Int)(fl:Th)(q:Tg)(cq:Nat)(cs:List aa)(f N:Nat)(bN:Int)(S:Pl.Jn)(H:Nat→UInt8)(w0:World)(FU:(Pl.hh (Pl.bu fl) (Pl.bu (Pl.bQ fl (cs.map aa.cm) nn.toNat)))=H)(oz:Pl.KE (Pl.eU oo nn H (cs.map aa.cm))=bN)(hS:Pl.bG D f N bN=S)(hZ:Jr w0 Z)(hz:JV 112 258 5 D md Z)(hN:NwOk bnd oo nn fl (cs.map aa.cm))(hq:Rd w0 q (cs.flatMap JM))(aq:∀ c∈cs,Q1 w0 c)(hle:Pl.X7 D.sz bnd oo nn=0)(hf:Pl.qv D.sz oo nn=(f:Int))(jn:Pl.slot D.sz bnd=(N:Int))(h0:N≠0)(h2:f+2*N≤D.cnt)(eB:D.dn=false)(rO:0≤bN∧bN≤18446744073709551615)(yi:(Pl.eU oo nn H (cs.map aa.cm)).length≤1000000000000)(O6:S.la.bs.length≤1000000)(u0:S.has=true→Pl.EZ bnd (cs.map aa.cm) (Pl.dG S)):C Tryz.prog 109 [.pointer (some ⟨md,0,none⟩),.int .i64 bnd,.agg ⟨aZ oo nn H q cs.length cq⟩] w0 fun v w'=>∃ K:eH,K.ok∧(K.md=md∧K.f=f∧K.N=N∧K.kk=bN∧K.bnd=bnd∧K.oo=oo∧K.nn=nn∧K.fl=fl∧K.cm=cs.map aa.cm)∧∃ j Zj,v=.tuple ⟨[.pointer (some ⟨K.ma,0,none⟩),.agg ⟨[.int .i64 0,.int .i64 0]⟩]⟩∧JZ 271 5 md (f:Int) bnd bN S j Zj∧Mem w0 w' No (fR K (Pl.VL D S (Pl.JF bnd (cs.map aa.cm))) 0 j::(K.F++Zj)):=by
 have EM:=hz.ok
 have hsz:=EM.sz
 have fy:=EM.max
 have bM:=hN.on
 have re:=hN.bn
 have bL:D.cnt≤D.cnt*D.sz:=Lu _ hsz
 have cV:D.sz≤D.cnt*D.sz:=L1 _ Ta
 have hl:cs.length≤100:=by have:=hN.few; rw [Lj] at this; exact this
 have b6:∀ c∈cs,Pl.av c.cm=0:=fun c hc=>(Pl.Jw (hN.vd.one c.cm (Ln.2 ⟨c,hc,rfl⟩))).1
 have cO:∀ c∈cs,c.d.bs.length≤140737488355328:=V5 hN.vd Ta
 have jb4:=bl6 hN
 have W0:qy D.sz bnd oo nn=[.int .i64 (D.sz:Int),.int .i64 bnd,.int .i64 0,.int .i64 (max oo nn),.int .i64 (f:Int),.int .i64 (2*(N:Int)),.int .i64 ((f:Int)+2*N)]:=by unfold qy; rw [hle,hf,jn]; rfl
 refine aH Tryz.func109 fun κ _ Je Jc hm=>?_
 refine au 2 ?_
 refine bT hm fun bx w hm=>?_
 refine au 1 ?_
 refine aT hm fun m7 w hm=>?_
 refine au 15 ?_
 refine Ja rfl rfl (Jm (s:=67) (vs:=aZ oo nn H _ cs.length cq) rfl ag26.h (hm.nt 1 rfl) rfl)<|cA rfl rfl rfl (uz oo nn _ q cq cs _ (hq.Jj hm.to) hl (fun c hc=>Q1.mono (aq c hc) hm.to) cO hN.vd) hm fun w hm=>aT hm fun m8 w hm=>?_
 refine st hm 0 fun w hm=>?_
 refine au 6 ?_
 refine Ja rfl rfl (JA (c:=false) (jo rfl rfl iii46) Tb)<|au 10 ?_
 refine cA rfl rfl rfl (HF q cq cs _ (hq.Jj hm.to) Ta b6 (EW hN.sf)) hm fun w hm=>aT hm fun m9 w hm=>?_
 refine st hm 0 fun w hm=>?_
 refine au 6 ?_
 refine Ja rfl rfl (JA (c:=false) (jo rfl rfl iii46) Tb)<|au 5 ?_
 refine Xc (ι:=Nat) rfl (ks:=[0,1,5,6,7]) Tn (fun m10=>[(10,.pointer (some ⟨m10,0,none⟩)),(11,.int .i64 0)]) (fun m10 w=>Mem w0 w No [(m10,.row 34 [.int .i64 (D.sz:Int),.int .i64 bnd,.int .i64 0,.int .i64 (max oo nn),.int .i64 (f:Int),.int .i64 (2*(N:Int)),.int .i64 ((f:Int)+2*N)]),(m7,.row 46 [.int .i64 0,.int .i64 0]),(bx,.row 26 (aZ oo nn H q cs.length cq))]) ?_ (fun m10 w hM=>?_)
 ·
  refine JS (.pure 0 (.pure 2 (.pure 3 (.act2 1 (.act2 4 (.pure 5 (.pure 6 (.pure 7 (.act 8 (.cut (.act 9 (.pure 10 .done))))))) 8 (.act 4 (.pure 5 (.pure 6 (.pure 7 (.cut (.act 9 (.pure 10 .done)))))))) 8 (.act 1 (.act 4 (.pure 5 (.pure 6 (.pure 7 (.cut (.act 9 (.pure 10 .done)))))))))))) No fP Te hm fun w hw ar hh=>?_
  have hm:=ar
  refine au 2 ?_
  refine Ja rfl rfl (Jm (s:=67) (vs:=aZ oo nn H _ cs.length cq) rfl ag26.h (ar.nd 3 rfl id) rfl)<|QN ?_ ?_
  ·
   refine cB rfl rfl rfl (Xt D md Z _ (hZ.ext hm.to) hz) hm hh fun w hm hh=>QN ?_ ?_
   ·
    refine cB rfl rfl rfl (G3 (D.sz:Int) bnd oo nn _ _ (by simp only [Pl.aA]; omega) (by simp only [Pl.aA]; omega) (by simp only [Pl.aA]; omega) (by simp only [Pl.aA]; omega)) hm hh fun w hm hh=>au 1 ?_
    refine Ja rfl rfl (cy (J7 rfl rfl) (LM (fun x=>Value.agg ⟨x⟩) W0))<|Ja rfl rfl (cy (J7 rfl rfl) (LM (Value.int .i64) hle))<|al hm hh fun m10 w E3 hm hh=>?_
    refine au 1 ?_
    refine st hm 0 fun w hm=>?_
    refine au 2 ?_
    exact Qt _ (hm.pick [0,3,4] rfl) Tm
   ·
    refine al hm hh fun m10 w E3 hm hh=>?_
    refine cB rfl rfl rfl (G3 (D.sz:Int) bnd oo nn _ _ (by simp only [Pl.aA]; omega) (by simp only [Pl.aA]; omega) (by simp only [Pl.aA]; omega) (by simp only [Pl.aA]; omega)) hm hh fun w hm hh=>au 1 ?_
    refine Ja rfl rfl (cy (J7 rfl rfl) (LM (fun x=>Value.agg ⟨x⟩) W0))<|Ja rfl rfl (cy (J7 rfl rfl) (LM (Value.int .i64) hle))<|au 1 ?_
    refine st hm 0 fun w hm=>?_
    refine au 2 ?_
    exact Qt _ (hm.pick [0,3,4] rfl) Tm
  ·
   refine al hm hh fun m10 w E3 hm hh=>?_
   refine cB rfl rfl rfl (Xt D md Z _ (hZ.ext hm.to) hz) hm hh fun w hm hh=>cB rfl rfl rfl (G3 (D.sz:Int) bnd oo nn _ _ (by simp only [Pl.aA]; omega) (by simp only [Pl.aA]; omega) (by simp only [Pl.aA]; omega) (by simp only [Pl.aA]; omega)) hm hh fun w hm hh=>au 1 ?_
   refine Ja rfl rfl (cy (J7 rfl rfl) (LM (fun x=>Value.agg ⟨x⟩) W0))<|Ja rfl rfl (cy (J7 rfl rfl) (LM (Value.int .i64) hle))<|au 1 ?_
   refine st hm 0 fun w hm=>?_
   refine au 2 ?_
   exact Qt _ (hm.pick [0,3,4] rfl) Tm
 ·
  have hm:=hM
  refine au 4 ?_
  refine Ja rfl rfl (JA (c:=true) (V3 rfl rfl) Tb)<|au 6 ?_
  refine cA rfl rfl rfl (yp D md Z _ (hZ.ext hm.to) hz _ _ _ _ _ _ Ta) hm fun w hm=>au 7 ?_
  refine Ja rfl rfl (JA (c:=false) (XD rfl rfl) Tb)<|au 7 ?_
  refine Ja rfl rfl (Jm (s:=67) (vs:=aZ oo nn H _ cs.length cq) rfl ag26.h (hm.nt 2 rfl) rfl)<|cT rfl rfl rfl (D3 oo nn _ q cq cs _ (hq.Jj hm.to) Ta (fun c hc=>Q1.mono (aq c hc) hm.to) jb4 (by simp only [Pl.jO]; omega) (by simp only [Pl.jO]; omega) b6) fun v w hR=>?_
  obtain ⟨ud,n_e,dZ,Bn,Bo,rfl,cP,ae⟩:=hR
  obtain rfl:=cP.J0
  replace hm:=hm.Jt ae
  refine au 8 ?_
  refine dw [0,3,6,9,12,15,19,22,25,27,30,33,36,39] hm fun w hw ar hh hm=>?_
  refine au 6 ?_
  refine Jb (l:=[_]) rfl rfl sl88.h z22.h rfl rfl rfl rfl rfl rfl rfl hm hh fun m15 w jb5 hm hh=>cB rfl rfl rfl (C.as (v:=.int .u64 bN) (jbp _ 1 ud dZ (Pl.eU oo nn H (cs.map aa.cm)) _ (Rd.JL (hm.get (k:=0) rfl)) (cP.rd hm 1 rfl) yi) (by rw [oz])) hm hh fun w hm hh=>ca rfl rfl rfl (NR D md Z _ (hZ.ext hm.to) hz f N bnd (by simp only [Pl.aA]; omega) jn h0 h2 bN eB) fun v w hR=>?_
  obtain ⟨j,Zj,rfl,hj,ae⟩:=hR
  rw [hS] at hj
  refine ⟨hh.ext ae.to,?_⟩
  replace hh:=hh.ext ae.to
  replace hm:=Mem.XR hm ae
  refine au 11 ?_
  refine Ja rfl rfl (JA (c:=false) (XD rfl rfl) Tb)<|au 5 ?_
  refine Xc (ι:=eH) rfl (ks:=[0,1,5,6,7,14]) Tn (fun x=>[(15,.pointer (some ⟨x.ma,0,none⟩))]) (fun x w=>x.ok∧(x.md=md∧x.f=f∧x.N=N∧x.kk=bN∧x.bnd=bnd∧x.oo=oo∧x.nn=nn∧x.fl=fl∧x.cm=cs.map aa.cm)∧Mem w0 w No (fR x ⟨D,S,0,0,false⟩ 0 j::(m7,.row 46 [.int .i64 0,.int .i64 0])::(x.F++Zj))) ?_ (fun x w hM=>?_)
  ·
   refine dw [0,3,6,9,12,15,21,24,27,33,19,31,2,36,40,42] hm fun w hw ar hh hm=>?_
   refine au 2 ?_
   refine Ja rfl rfl (Qe (cs:=[_,_,_]) z179.h ft179.h rfl rfl rfl rfl rfl)<|Ja rfl rfl (Jm (s:=67) (vs:=aZ oo nn H _ cs.length cq) rfl ag26.h (ar.nd 4 rfl id) rfl)<|au 6 ?_
   refine ca rfl rfl rfl (nl oo nn _ q cs.length cq q cq cs _ (hq.Jj hm.to) (fun c hc=>Q1.mono (aq c hc) hm.to) Ta cO) fun v w hR=>?_
   obtain ⟨fk,aK,dE,aj,aI,aF,ry,rfl,ah,cY,dy,ae⟩:=hR
   refine ⟨hh.ext ae.to,?_⟩
   replace hh:=hh.ext ae.to
   replace hm:=hm.VZ ae
   obtain rfl:=ah.QB Jf Tb
   refine ca rfl rfl rfl (Uw bnd q cq cs _ (hq.Jj hm.to) (fun c hc=>⟨b6 c hc,(Q1.mono (aq c hc) hm.to).2.2.2.2,cO c hc⟩) ⟨by simp only [Pl.aA]; omega,re.1⟩ hN.fw ⟨Ta,by have:=hN.mx; omega⟩) fun v w hR=>?_
   rcases hR with ⟨-,h9,-⟩ | ⟨mp,pf,pb,pl,cf,cb,cl,gf,gb,gl,bf,bb,bl,xs,B_p,rfl,-,haf,nY,N7,Uh,jb6,ae⟩
   · rw [hN.tot] at h9; cases h9
   rw [← Uh] at haf nY ae
   refine ⟨hh.ext ae.to,?_⟩
   replace hh:=hh.ext ae.to
   replace hm:=hm.oX (N1:=[_,_,_,_]) (N2:=B_p) ae
   refine au 1 ?_
   refine Ja rfl rfl (mT (cs:=Rb md bnd 0 (aZ oo nn H aK fk.length aj) mp j 0 0 false) z183.h ft183.h rfl rfl rfl Te Te)<|bT hm fun ma w hm=>?_
   refine au 2 ?_
   have FV:=apF (A:=[_,_]) (M:=[_,_,_,_,_]) (Z:=Zj) (B1:=ry) (B2:=B_p) (hm.Jp [0,9,5,1,2,3,4] 11 rfl)
   refine Qt (⟨md,ma,mp,f,N,bN,bnd,oo,nn,fl,aK,aj,fk,pf,pb,pl,cf,cb,cl,xs,((aI,aF)::(mp,.row 286 (MG bnd pf (J2 bnd (xs.map aa.cm)).length cf pb cb pl xs.length cl))::(gf,bf)::(gb,bb)::(gl,bl)::[])++(ry++B_p)⟩:eH) ⟨?_,⟨rfl,rfl,rfl,rfl,rfl,rfl,rfl,rfl,cY⟩,?_⟩ Tm
   · refine eH.WY (gs:=aI) (gf:=gf) (gb:=gb) (gl:=gl) (bs:=aF) (bf:=bf) (bb:=bb) (bl:=bl) ?_ (Uh.trans cY.symm) h0 rO (Lw _ (.head _)) ah (fun y hy=>(dy y hy).mono fun e he=>Ly _ (Lw _ he)) (Lw _ (.tail _ (.head _))) (Lw _ (.tail _ (.tail _ (.head _)))) haf (Lw _ (.tail _ (.tail _ (.tail _ (.head _))))) nY (Lw _ (.tail _ (.tail _ (.tail _ (.tail _ (.head _)))))) N7 (fun y hy=>(jb6 y hy).mono fun e he=>Ly _ (Ly _ he))
     show NwOk bnd oo nn fl (fk.map aa.cm)
     rw [cY]; exact hN
   · have hH:eH.H ⟨md,ma,mp,f,N,bN,bnd,oo,nn,fl,aK,aj,fk,pf,pb,pl,cf,cb,cl,xs,((aI,aF)::(mp,.row 286 (MG bnd pf (J2 bnd (xs.map aa.cm)).length cf pb cb pl xs.length cl))::(gf,bf)::(gb,bb)::(gl,bl)::[])++(ry++B_p)⟩=H:=by unfold eH.H eH.nw eH.cm; simp only; rw [cY,FU]
     unfold fR; rw [hH]; exact FV
  ·
   obtain ⟨hK,qA,hm⟩:=hM
   have jb7:=qA
   obtain ⟨k1,k2,k3,k4,k5,k6,k7,k8,k9⟩:=jb7
   have hlen:Pl.first x.bnd (x.xs.map aa.cm) (x.xs.map aa.cm).length=Pl.JF bnd (cs.map aa.cm):=by rw [hK.xc,k9,k5]; rfl
   have wM:=hK.mx
   refine au 3 ?_
   refine cT rfl rfl rfl (DH md f bnd bN S j Zj _ (iu (A:=[_,_]) hm.Jz) hj Ta) fun v w hR=>?_
   obtain ⟨PU,pI,g_l,PV,rfl,nf,ae⟩:=hR
   replace hm:=hm.Jt ae
   refine au 3 ?_
   refine aT hm fun lr w hm=>?_
   refine st hm 0 fun w hm=>?_
   refine au 10 ?_
   refine cd (fun jX=>?_) fun jX=>?_
   ·
    simp only [bE] at jX
    refine au 5 ?_
    refine st hm 3 fun w hm=>?_
    refine au 4 ?_
    refine dD (fin Je rfl (.tmp rfl (.cell rfl (Ju (vs:=[_,_]) ag46.h (hm.get (k:=3) rfl) rfl) .nil)) .more ?_)
    exact ⟨x,hK,qA,j,Zj,rfl,hj,by rw [show Pl.VL D S (Pl.JF bnd (cs.map aa.cm))=⟨D,S,0,0,false⟩ by unfold Pl.VL; rw [LI jX]]; exact (hm.Jp [2] 4 rfl)⟩
   ·
    simp only [bF] at jX
    have nP:=u0 jX
    simp only [Pl.EZ] at nP
    rw [← k5,← k9] at nP
    refine au 7 ?_
    refine cA rfl rfl rfl (E0 x ⟨D,S,0,0,false⟩ 0 j _ hK (hm.get (k:=2) rfl) (Xs (A:=[_,_,_,_]) hm.Jz) (Pl.dG S) PU pI nP.1 nP.2.1 nP.2.2) hm fun w hm=>au 6 ?_
    refine Xc (ι:=Unit) rfl (ks:=[6,7,15,16]) Tn (fun u9=>[]) (fun u9 w=>Mem w0 w No (fR x ⟨D,S,1,(Pl.dG S).cu,true⟩ 0 j::(m7,.row 46 [.int .i64 0,.int .i64 0])::(x.F++Zj))) ?_ (fun u9 w hM=>?_)
    ·
     refine JS (.pure 0 (.pure 1 (.pure 2 (.pure 3 (.pure 4 (.pure 5 (.pure 6 (.act 7 (.pure 8 (.pure 9 (.act 10 (.pure 11 (.pure 12 (.act 13 .done)))))))))))))) (fun j=>j=x.ma) fP Te hm fun w hw ar hh=>?_
     have hm:=ar
     refine au 4 ?_
     refine Ja rfl rfl (Jh rfl sc3.h (ar.nd 0 rfl (ar.ne 0 2 rfl rfl rfl rfl rfl)) rfl)<|au 2 ?_
     refine QO rfl rfl rfl rfl sz3 rfl hm 2 rfl rfl hh (.inr rfl) fun w hm hh=>au 2 ?_
     refine QO rfl rfl rfl rfl sz3 rfl hm 2 rfl rfl hh (.inr rfl) fun w hm hh=>au 2 ?_
     refine QO rfl rfl rfl rfl sz4 rfl hm 2 rfl rfl hh (.inr rfl) fun w hm hh=>au 1 ?_
     exact Qt () (hm.Jp [2,3] 4 rfl) Tm
    ·
     have hm:=hM
     refine au 2 ?_
     refine dw [0,3,6,9,12,15,18,21,25,27] hm fun w hw ar hh hm=>?_
     refine au 8 ?_
     refine cB rfl rfl rfl (C.as (v:=.int .i64 (Pl.JF bnd (cs.map aa.cm))) (ug x.mp x.bnd x.pf x.cf x.pb x.cb x.pl x.cl x.xs _ (hK.pl _ (Xs (A:=[_,_]) hm.Jz)).1 (hK.pl _ (Xs (A:=[_,_]) hm.Jz)).2.1 (hK.pl _ (Xs (A:=[_,_]) hm.Jz)).2.2.1 (hK.pl _ (Xs (A:=[_,_]) hm.Jz)).2.2.2.1 hK.fw Ta) (by rw [hlen])) hm hh fun w hm hh=>au 3 ?_
     refine cd (fun Av=>?_) fun Av=>?_
     ·
      simp only [dT] at Av
      have hA:Pl.VL D S (Pl.JF bnd (cs.map aa.cm))=⟨D,S,2,(Pl.dG S).cu,true⟩:=by unfold Pl.VL; rw [LH (by rw [jX]; decide),LI Av]
      refine au 4 ?_
      refine st hm 0 fun w hm=>?_
      refine au 7 ?_
      refine st hm 1 fun w hm=>?_
      refine au 3 ?_
      refine dD (fin Je rfl (.tmp rfl (.cell rfl (Ju (vs:=[_,_]) ag46.h (hm.get (k:=1) rfl) rfl) .nil)) .more ?_)
      exact ⟨x,hK,qA,j,Zj,rfl,hj,by rw [hA]; exact (hm.Jp [0] 2 rfl)⟩
     ·
      simp only [dF] at Av
      have hA:Pl.VL D S (Pl.JF bnd (cs.map aa.cm))=⟨D,S,1,(Pl.dG S).cu,true⟩:=by unfold Pl.VL; rw [LH (by rw [jX]; decide),LH Av]
      refine au 7 ?_
      refine st hm 1 fun w hm=>?_
      refine au 3 ?_
      refine dD (fin Je rfl (.tmp rfl (.cell rfl (Ju (vs:=[_,_]) ag46.h (hm.get (k:=1) rfl) rfl) .nil)) .more ?_)
      exact ⟨x,hK,qA,j,Zj,rfl,hj,by rw [hA]; exact (hm.Jp [0] 2 rfl)⟩
end Go.Proofs.YtaehgpeenaomcaaGreat
namespace Go.Pl
open Go Go.Cx Go.Proofs.YtaehgpeenaomcaaGreat
inductive RunTo(st:Pl.Ap→Int×Pl.Ap)(Q:Pl.Ap→Prop):Nat→Pl.Ap→Int→Pl.Ap→Prop
 | stop {A:Pl.Ap}:Q A→((st A).1≠0∨(st A).2.st=2)→RunTo st Q 0 A (st A).1 (st A).2
 | next {n:Nat} {A B:Pl.Ap} {c:Int}:Q A→(st A).1=0→(st A).2.st≠2→RunTo st Q n (st A).2 c B→RunTo st Q (n+1) A c B
end Go.Pl
namespace Go.Proofs.YtaehgpeenaomcaaGreat
open Go Go.Cx
theorem va{st:Pl.Ap→Int×Pl.Ap}{Q:Pl.Ap→Prop}{n:Nat}{A B:Pl.Ap}{c:Int}(h:Pl.RunTo st Q n A c B):Q A:=by cases h <;> assumption
theorem A7{st:Pl.Ap→Int×Pl.Ap}{Q:Pl.Ap→Prop}{n:Nat}{A B:Pl.Ap}{c:Int}(h:Pl.RunTo st Q n A c B)(he:(st A).1≠0∨(st A).2.st=2):c=(st A).1∧B=(st A).2:=by
 cases h with
 | stop h1 h2=>exact ⟨rfl,rfl⟩
 | next h1 h2 h3 h4=>exact (he.elim (fun h=>h h2) fun h=>h3 h).elim
theorem nF{st:Pl.Ap→Int×Pl.Ap}{Q:Pl.Ap→Prop}{n:Nat}{A B:Pl.Ap}{c:Int}(h:Pl.RunTo st Q n A c B)(h1:(st A).1=0)(h2:(st A).2.st≠2):∃ m,n=m+1∧Pl.RunTo st Q m (st A).2 c B:=by
 cases h with
 | stop h3 h4=>exact (h4.elim (fun h=>h h1) fun h=>h2 h).elim
 | next h3 h4 h5 h6=>exact ⟨_,rfl,h6⟩
theorem xd{st:Pl.Ap→Int×Pl.Ap}{Q:Pl.Ap→Prop}{c:Int}{B:Pl.Ap}:∀ {n:Nat} {A:Pl.Ap} {m:Nat},Pl.RunTo st Q n A c B→Pl.RunTo st Q m A c B→n=m:=by
 intro n
 induction n with
 | zero=>
  intro A m h1 h2
  cases m with
  | zero=>rfl
  | succ m=>
   cases h1 with
   | stop h3 h4=>
    cases h2 with
    | next h5 h6 h7 h8=>exact (h4.elim (fun h=>h h6) fun h=>h7 h).elim
 | succ n ih=>
  intro A m h1 h2
  cases h1 with
  | next h5 h6 h7 h8=>
   obtain ⟨k,rfl,h9⟩:=nF h2 h6 h7
   rw [ih h8 h9]
open Classical in
noncomputable def yO(st:Pl.Ap→Int×Pl.Ap)(Q:Pl.Ap→Prop)(c:Int)(B:Pl.Ap)(A:Pl.Ap):Nat:=if h:∃ n,Pl.RunTo st Q n A c B then Classical.choose h else 0
theorem E4{st:Pl.Ap→Int×Pl.Ap}{Q:Pl.Ap→Prop}{A B:Pl.Ap}{c:Int}(h:∃ n,Pl.RunTo st Q n A c B)(h1:(st A).1=0)(h2:(st A).2.st≠2):(∃ n,Pl.RunTo st Q n (st A).2 c B)∧yO st Q c B (st A).2<yO st Q c B A:=by
 obtain ⟨m,hm,h3⟩:=nF (Classical.choose_spec h) h1 h2
 have h4:∃ n,Pl.RunTo st Q n (st A).2 c B:=⟨m,h3⟩
 refine ⟨h4,?_⟩
 unfold yO
 rw [dif_pos h,dif_pos h4,xd (Classical.choose_spec h4) h3,hm]
 exact Nat.lt_succ_self _
theorem It{c:Int}{B:Pl.Ap}(K:eH)(A:Pl.Ap)(pk:Int)(j:Nat)(Zj Zd:Tf)(w0:World)(hK:K.ok)(hs:A3 K A)(hO:Jr w0 (fR K A pk j::(K.F++(Zj++Zd))))(hj:JZ 271 5 K.md (K.f:Int) K.bnd K.kk A.S j Zj)(hz:JV 112 258 5 A.D K.md Zd)(kf:A.st=0→Pl.bw A.D 0 K.oo=K.fl)(h:∃ n,Pl.RunTo (Pl.Ap.step K.f K.N K.bnd K.kk K.cm) (A3 K) n A c B):C Tryz.prog 112 [.pointer (some ⟨K.ma,0,none⟩)] w0 fun v w'=>v=.agg ⟨[.int .i64 c,.int .i64 0]⟩∧w8 K B pk w0 w' (fR K A pk j::(K.F++(Zj++Zd))):=
 (WW K A pk j Zj Zd w0 hK hs hO hj hz (fun A1=>∃ n,Pl.RunTo (Pl.Ap.step K.f K.N K.bnd K.kk K.cm) (A3 K) n A1 c B) (yO (Pl.Ap.step K.f K.N K.bnd K.kk K.cm) (A3 K) c B) kf h (fun A1 ⟨n,h1⟩=>va h1) (fun A1 h1 h2 h3=>E4 h1 h2 h3)).mono fun v w' ⟨A1,⟨n,h1⟩,h2,h3,h4⟩=>by
  obtain ⟨e1,e2⟩:=A7 h1 h2
  rw [e1,e2]
  exact ⟨h3,h4⟩
theorem Ph(md ma:Nat)(bnd pk oo nn:Int)(H:Nat→UInt8)(q:Tg)(n cq mp j:Nat)(st nx:Int)(sg:Bool)(w0:World)(hr:w0.heap[ma]?=some (ag.row 183 (Rb md bnd pk (aZ oo nn H q n cq) mp j st nx sg)).Jd):C Tryz.prog 78 [.pointer (some ⟨ma,0,none⟩)] w0 fun v w'=>v=.int .i64 pk∧Ext No w0 w':=by
 refine aH Tryz.func78 fun κ _ Je Jc hm=>?_
 refine au 27 ?_
 exact ⟨rfl,hm.to⟩
theorem Iu(md ma:Nat)(bnd pk oo nn:Int)(H:Nat→UInt8)(q:Tg)(n cq mp j:Nat)(st nx:Int)(sg:Bool)(w0:World)(hr:w0.heap[ma]?=some (ag.row 183 (Rb md bnd pk (aZ oo nn H q n cq) mp j st nx sg)).Jd):C Tryz.prog 110 [.pointer (some ⟨ma,0,none⟩)] w0 fun v w'=>v=.int .i64 st∧Ext No w0 w':=by
 refine aH Tryz.func110 fun κ _ Je Jc hm=>?_
 refine au 26 ?_
 exact ⟨rfl,hm.to⟩
theorem Pj(md ma:Nat)(bnd pk oo nn:Int)(H:Nat→UInt8)(q:Tg)(n cq mp j:Nat)(st nx:Int)(sg:Bool)(w0:World)(hr:w0.heap[ma]?=some (ag.row 183 (Rb md bnd pk (aZ oo nn H q n cq) mp j st nx sg)).Jd):C Tryz.prog 111 [.pointer (some ⟨ma,0,none⟩)] w0 fun v w'=>v=.int .i64 nx∧Ext No w0 w':=by
 refine aH Tryz.func111 fun κ _ Je Jc hm=>?_
 refine au 26 ?_
 exact ⟨rfl,hm.to⟩
end Go.Proofs.YtaehgpeenaomcaaGreat
namespace Go.Pl
open Go Go.Cx Go.Proofs.YtaehgpeenaomcaaGreat
structure AttTo(f N:Nat)(b k oo nn:Int)(fl:Th)(cs:List Pl.Cm)(D:Pl.Dv)(c:Int)(D':Pl.Dv):Prop where
 dn:D.dn=false
 le:Pl.X7 D.sz b oo nn=0
 lf:Pl.qv D.sz oo nn=(f:Int)
 sl:Pl.slot D.sz b=(N:Int)
 h2:f+2*N≤D.cnt
 la:(Pl.bG D f N k).la.bs.length≤1000000
 mt:(Pl.bG D f N k).has=true→Pl.EZ b cs (Pl.dG (Pl.bG D f N k))
 rd:(Pl.VL D (Pl.bG D f N k) (Pl.JF b cs)).st=0→Pl.bw D 0 oo=fl
 run:∃ n B,Pl.RunTo (Pl.Ap.step f N b k cs) (Pl.SidP f N b oo nn (Pl.bQ fl cs nn.toNat) cs) n (Pl.VL D (Pl.bG D f N k) (Pl.JF b cs)) c B∧D'=Pl.pj B.D∧B.D.ca.length≤1000000000
end Go.Pl
namespace Go.Proofs.YtaehgpeenaomcaaGreat
open Go Go.Cx
theorem Iv{K:eH}{f N:Nat}{b k oo nn:Int}{fl:Th}{cs:List Pl.Cm}{n:Nat}{A B:Pl.Ap}{c:Int}(k2:K.f=f)(k3:K.N=N)(k4:K.kk=k)(k5:K.bnd=b)(k6:K.oo=oo)(k7:K.nn=nn)(k8:K.fl=fl)(k9:K.cm=cs)
 (h:Pl.RunTo (Pl.Ap.step f N b k cs) (Pl.SidP f N b oo nn (Pl.bQ fl cs nn.toNat) cs) n A c B):Pl.RunTo (Pl.Ap.step K.f K.N K.bnd K.kk K.cm) (A3 K) n A c B:=by
 subst k2 k3 k4 k5 k6 k7 k8 k9
 exact h
theorem cpN{w0 w:World}{X:Bs}{q:Nat×ag}{A Zd F Zj:Tf}(h:Mem w0 w X (q::(A++Zd++(F++Zj)))):Mem w0 w X (A++(q::(F++(Zj++Zd)))):=by
 refine h.perm ?_
 rw [Lp]
 refine (List.perm_middle (a:=q) (l₁:=A)).symm.trans<|List.Perm.append_left _ (List.Perm.cons _ ?_)
 rw [← Lp F]
 exact List.perm_append_comm
theorem cpD{w0 w:World}{X:Bs}{a b c q:Nat×ag}{F Zj Zd:Tf}(h:Mem w0 w X (a::b::c::q::(F++(Zj++Zd)))):Mem w0 w X ((a::b::c::Zd)++(q::(F++Zj))):=by
 refine h.perm (.cons _ (.cons _ (.cons _ ?_)))
 refine List.Perm.trans ?_ List.perm_append_comm
 rw [← Lp]
 exact .refl _
theorem cpU{w0 w:World}{X:Bs}{a b c q:Nat×ag}{R Zd:Tf}(h:Mem w0 w X ((a::b::c::Zd)++(q::R))):Mem w0 w X (a::q::(R++Zd)):=by
 have h1:Mem w0 w X (a::(Zd++(q::R))):=h.drop (.cons_cons _ (.cons _ (.cons _ (List.Sublist.refl _))))
 refine h1.perm (.cons _ ?_)
 exact List.perm_append_comm
theorem Pk(D:Pl.Dv)(md:Nat)(Z:Tf)(m6 m3 m8:Nat)(a b c e g b0:Int)(w0:World)(hO:Jr w0 ((m6,.row 72 [.int .i64 a,.int .i64 b,.int .i64 c,.int .i64 e,.int .i64 g])::(m3,.row 67 [.pointer (some ⟨md,0,none⟩)])::(m8,.row 3 [.int .i64 b0])::Z))(hz:JV 112 258 5 D md Z)(bL:D.ca.length≤1000000000):CallsD Tryz.prog 107 ⟨[.pointer (some ⟨m3,0,none⟩),.pointer (some ⟨m8,0,none⟩),.pointer (some ⟨m6,0,none⟩)]⟩ .returning w0 fun x u' w'=>u'=.returning∧Rt (fun v w'=>v=.tuple ⟨[]⟩∧∃ (Z':Tf) (wr:Int),JV 112 258 5 (Pl.pj D) md Z'∧Mem w0 w' (Mn (ak ((m6,.row 72 [.int .i64 a,.int .i64 b,.int .i64 c,.int .i64 e,.int .i64 g])::(m3,.row 67 [.pointer (some ⟨md,0,none⟩)])::(m8,.row 3 [.int .i64 b0])::Z))) ((m6,.row 72 [.int .i64 a,.int .i64 b,.int .i64 wr,.int .i64 e,.int .i64 g])::(m3,.row 67 [.pointer (some ⟨md,0,none⟩)])::(m8,.row 3 [.int .i64 b0])::Z')) x w':=by
 refine M2 Tryz.func107 rfl rfl rfl fun κ _ Je Jc=>?_
 have hm:=hO.start
 refine au 1 ?_
 refine dw [0,9,4,6,2,12,15,19] hm fun w hw ar hh hm=>?_
 refine au 2 ?_
 refine cB rfl rfl rfl (yd D md Z _ (Jr.right (A:=[_,_,_]) hm.Jz) hz) hm hh fun w hm hh=>Ja rfl rfl (QF rfl fv108_0 rfl)<|au 1 ?_
 refine Ja rfl rfl (QR rfl rfl rfl)<|au 1 ?_
 refine st hm 0 fun w hm=>?_
 refine au 4 ?_
 refine cT rfl rfl rfl (Ac D md Z _ (Jr.right (A:=[_,_,_]) hm.Jz) hz bL) fun v w hR=>?_
 obtain ⟨rfl,Z1,bZ,ae⟩:=hR
 replace hm:=Mem.JQ (A:=[_,_,_]) hm ae
 refine au 1 ?_
 refine eK (fin Jc rfl .nil .nil ?_)
 exact ⟨rfl,Z1,_,bZ,(hm.Jp [0,1,2] 3 rfl)⟩
theorem W2(D:Pl.Dv)(md:Nat)(Z:Tf)(bnd oo nn:Int)(fl:Th)(q:Tg)(cq:Nat)(cs:List aa)(f N:Nat)(bN:Int)(H:Nat→UInt8)(e:Int)(E:Pl.Dv)(w0:World)(hZ:Jr w0 Z)(hz:JV 112 258 5 D md Z)(hN:NwOk bnd oo nn fl (cs.map aa.cm))(h0:N≠0)(FU:(Pl.hh (Pl.bu fl) (Pl.bu (Pl.bQ fl (cs.map aa.cm) nn.toNat)))=H)(oz:Pl.KE (Pl.eU oo nn H (cs.map aa.cm))=bN)(rO:0≤bN∧bN≤18446744073709551615)(yi:(Pl.eU oo nn H (cs.map aa.cm)).length≤1000000000000)(hq:∀ w L,Mem w0 w (Mn (ak Z)) L→Rd w q (cs.flatMap JM)∧∀ c∈cs,Q1 w c)(hA:Pl.AttTo f N bnd bN oo nn fl (cs.map aa.cm) D e E):C Tryz.prog 77 [.pointer (some ⟨md,0,none⟩),.int .i64 bnd,.agg ⟨aZ oo nn H q cs.length cq⟩] w0 fun v w'=>∃ (K:eH) (B:Pl.Ap) (a b c pk:Int) (j:Nat) (R Zd:Tf),v=.tuple ⟨[.agg ⟨[.int .i64 a,.int .i64 b,.int .i64 c,.int .i64 e,.int .i64 0]⟩,.pointer (some ⟨K.ma,0,none⟩)]⟩∧pk≤max 0 bnd∧JV 112 258 5 E md Zd∧Mem w0 w' (Mn (ak Z)) (fR K B pk j::(R++Zd)):=by
 refine CE.c (E:=fun _ _=>False) (I9 Tryz.func77 rfl rfl rfl ?_) (fun _ _ h=>h)
 have hm:=hZ.start
 refine au 2 ?_
 refine bT hm fun m3 w hm=>?_
 refine bT hm fun m5 w hm=>?_
 refine aT hm fun m6 w hm=>?_
 refine au 6 ?_
 refine cA rfl rfl rfl (yd D md Z _ (Jr.right (A:=[_,_,_]) hm.Jz) hz) hm fun w hm=>Ja rfl rfl (QF rfl fv108_0 rfl)<|aT hm fun m8 w hm=>?_
 refine st hm 0 fun w hm=>?_
 refine au 3 ?_
 refine tK (.pure 0 (.act 1 .done)) Te<|au 1 ?_
 refine x7 rfl rfl rfl trivial<|au 6 ?_
 refine Ja rfl rfl (Jm (s:=67) (vs:=aZ oo nn H _ cs.length cq) rfl ag26.h (hm.nt 2 rfl) rfl)<|cT rfl rfl rfl (WZ D md Z bnd oo nn fl q cq cs f N bN (Pl.bG D f N bN) H _ FU oz rfl (Jr.right (A:=[_,_,_,_]) hm.Jz) hz hN (hq _ _ hm).1 (hq _ _ hm).2 hA.le hA.lf hA.sl h0 hA.h2 hA.dn rO yi hA.la hA.mt) fun v w hR=>?_
 obtain ⟨K,hK,⟨k1,k2,k3,k4,k5,k6,k7,k8,k9⟩,j,Zj,rfl,hj,ae⟩:=hR
 replace hm:=cpN (A:=[_,_,_,_]) (hm.VZ ae)
 obtain ⟨n9,B,aN,hEq,C0⟩:=hA.run
 have K1:=Iv k2 k3 k4 k5 k6 k7 k8 k9 aN
 have dW:JZ 271 5 K.md (K.f:Int) K.bnd K.kk (Pl.VL D (Pl.bG D f N bN) (Pl.JF bnd (cs.map aa.cm))).S j Zj:=by rw [k1,k2,k5,k4,show (Pl.VL D (Pl.bG D f N bN) (Pl.JF bnd (cs.map aa.cm))).S=(Pl.bG D f N bN) by unfold Pl.VL; split <;> rfl]; exact hj
 have bZ:JV 112 258 5 (Pl.VL D (Pl.bG D f N bN) (Pl.JF bnd (cs.map aa.cm))).D K.md Z:=by rw [k1,show (Pl.VL D (Pl.bG D f N bN) (Pl.JF bnd (cs.map aa.cm))).D=D by unfold Pl.VL; split <;> rfl]; exact hz
 refine au 5 ?_
 refine st hm 1 fun w hm=>?_
 refine au 6 ?_
 refine Ja rfl rfl (qt rfl rfl pb147.h)<|au 6 ?_
 refine cA rfl rfl rfl (Iu K.md K.ma K.bnd 0 K.oo K.nn K.H K.q K.cs.length K.cq K.mp j (Pl.VL D (Pl.bG D f N bN) (Pl.JF bnd (cs.map aa.cm))).st (Pl.VL D (Pl.bG D f N bN) (Pl.JF bnd (cs.map aa.cm))).nx (Pl.VL D (Pl.bG D f N bN) (Pl.JF bnd (cs.map aa.cm))).sg _ (hm.get (k:=4) rfl)) hm fun w hm=>au 1 ?_
 refine cA rfl rfl rfl (Pj K.md K.ma K.bnd 0 K.oo K.nn K.H K.q K.cs.length K.cq K.mp j (Pl.VL D (Pl.bG D f N bN) (Pl.JF bnd (cs.map aa.cm))).st (Pl.VL D (Pl.bG D f N bN) (Pl.JF bnd (cs.map aa.cm))).nx (Pl.VL D (Pl.bG D f N bN) (Pl.JF bnd (cs.map aa.cm))).sg _ (hm.get (k:=4) rfl)) hm fun w hm=>au 1 ?_
 refine st hm 1 fun w hm=>?_
 refine au 1 ?_
 refine st hm 1 fun w hm=>?_
 refine au 4 ?_
 refine cT rfl rfl rfl (It K (Pl.VL D (Pl.bG D f N bN) (Pl.JF bnd (cs.map aa.cm))) 0 j Zj Z _ hK (va K1) (Jr.right (A:=[_,_,_,_]) hm.Jz) dW bZ (by rw [k6,k8,show (Pl.VL D (Pl.bG D f N bN) (Pl.JF bnd (cs.map aa.cm))).D=D by unfold Pl.VL; split <;> rfl]; exact hA.rd) ⟨n9,K1⟩) fun v w hR=>?_
 obtain ⟨rfl,pX,Z9,hp9,⟨j9,Zj9,WV,rfl,Rg,eC⟩,ae⟩:=hR
 replace hm:=Mem.JQ (A:=[_,_,_,_]) hm ae
 rw [k1] at eC
 rw [k5] at hp9
 refine au 1 ?_
 refine st hm 1 fun w hm=>?_
 refine au 6 ?_
 refine st hm 1 fun w hm=>?_
 refine au 4 ?_
 refine dD fun a eo=>?_
 show Leaves _ _ _ _ a.defers _ _
 rw [eo.defers]
 have FV:=cpD (F:=K.F) (Zj:=Zj9) (Zd:=WV) (hm.Jp [1,3,0,4] 5 rfl)
 refine wF Tc (Pk B.D md _ m6 m3 m8 _ _ _ _ _ _ w (Jr.left (A:=_::_::_::WV) FV.Jz) eC C0) go107 rfl fun v w9 hv=>?_
 obtain ⟨rfl,Is,wr,da,jb8⟩:=hv
 have hm8:=cpU (FV.xI jb8)
 refine qV (fn:=Tryz.f77) (v:=.tuple ⟨[.agg ⟨[.int .i64 (Pl.VL D (Pl.bG D f N bN) (Pl.JF bnd (cs.map aa.cm))).st,.int .i64 (Pl.VL D (Pl.bG D f N bN) (Pl.JF bnd (cs.map aa.cm))).nx,.int .i64 wr,.int .i64 e,.int .i64 0]⟩,.pointer (some ⟨K.ma,0,none⟩)]⟩) (R:=fun v w'=>∃ (K:eH) (B:Pl.Ap) (a b c pk:Int) (j:Nat) (R Zd:Tf),v=.tuple ⟨[.agg ⟨[.int .i64 a,.int .i64 b,.int .i64 c,.int .i64 e,.int .i64 0]⟩,.pointer (some ⟨K.ma,0,none⟩)]⟩∧pk≤max 0 bnd∧JV 112 258 5 E md Zd∧Mem w0 w' (Mn (ak Z)) (fR K B pk j::(R++Zd))) rfl (.cell rfl (Ju (vs:=[_,_,_,_,_]) ag72.h (hm8.get (k:=0) rfl) rfl) (.tmp rfl .nil)) .more ?_ eo
 exact ⟨K,B,_,_,_,pX,j9,_,Is,rfl,hp9,hEq▸da,hm8.tail⟩
end Go.Proofs.YtaehgpeenaomcaaGreat
namespace Go.Pl
open Go Go.Cx Go.Proofs.YtaehgpeenaomcaaGreat
inductive AttsTo(f N:Nat)(b k oo nn:Int)(fl:Th)(cs:List Pl.Cm):Tl→Pl.Dv→Nat→Int→Pl.Dv→Prop
 | last {x:Int×Int} {r:Tl} {D E:Pl.Dv} {c:Int}:Pl.AttTo f N b k oo nn fl cs (Pl.jQ D x.1 x.2) c E→c≠18→AttsTo f N b k oo nn fl cs (x::r) D 1 c E
 | more {x:Int×Int} {r:Tl} {D E F:Pl.Dv} {n:Nat} {c:Int}:Pl.AttTo f N b k oo nn fl cs (Pl.jQ D x.1 x.2) 18 E→AttsTo f N b k oo nn fl cs r E n c F→AttsTo f N b k oo nn fl cs (x::r) D (n+1) c F
end Go.Pl
namespace Go.Proofs.YtaehgpeenaomcaaGreat
open Go Go.Cx
section
variable {f N:Nat}{b k oo nn:Int}{fl:Th}{cs:List Pl.Cm}
theorem nG{l:Tl}{D E:Pl.Dv}{n:Nat}{c:Int}(h:Pl.AttsTo f N b k oo nn fl cs l D n c E):1≤n:=by cases h <;> omega
theorem E5{D E:Pl.Dv}{n:Nat}{c:Int}(h:Pl.AttsTo f N b k oo nn fl cs [] D n c E):False:=by cases h
theorem E6{x:Int×Int}{r:Tl}{D E:Pl.Dv}{n:Nat}{c:Int}(h:Pl.AttsTo f N b k oo nn fl cs (x::r) D n c E):∃ e D1,Pl.AttTo f N b k oo nn fl cs (Pl.jQ D x.1 x.2) e D1∧((e≠18∧n=1∧c=e∧E=D1)∨(e=18∧∃ m,n=m+1∧Pl.AttsTo f N b k oo nn fl cs r D1 m c E)):=by
 cases h with
 | last h1 h2=>exact ⟨_,_,h1,.inl ⟨h2,rfl,rfl,rfl⟩⟩
 | more h1 h2=>exact ⟨_,_,h1,.inr ⟨rfl,_,rfl,h2⟩⟩
end
def xe(k:Int×Int):List Value:=[.int .i64 k.1,.int .u64 k.2]
theorem nH(k:Int×Int):(xe k).length=2:=rfl
theorem ve:∀ ks:Tl,(ks.flatMap xe).length=ks.length*2
 | []=>rfl
 | k::r=>by rw [Lk,Lc,ve r,nH,Li]; omega
theorem W3{w0 w:World}{Z:Tf}{p:Nat×ag}(hZ:Jr w0 Z)(h:Mem w0 w No [p]):Mem w0 w (Mn (ak Z)) (p::Z):=h.Zp hZ
theorem jb9{w:World}{a b:Nat×ag}{Z:Tf}(h:Jr w (a::b::Z)):Mem w w (Mn (ak (a::b::Z))) (a::Z):=h.start.drop (.cons_cons _ (.cons _ (List.Sublist.refl _)))
theorem W4{w:World}{a b:Nat×ag}{Z:Tf}(h:Jr w (a::b::Z)):Mem w w (Mn (ak (a::b::Z))) Z:=h.start.drop (.cons _ (.cons _ (List.Sublist.refl _)))
theorem Pm{w0 w:World}{X:Bs}{a b p:Nat×ag}{R Z:Tf}(h:Mem w0 w X (a::b::p::(R++Z))):Mem w0 w X (a::b::Z):=
 h.drop (.cons_cons _ (.cons_cons _ (.cons _ (List.sublist_append_right _ _))))
theorem Pn(md:Nat)(bnd:Int)(L67:Ti)(hL:L67.length=67)(sp:Tg)(sn sc:Nat)(w0:World):C Tryz.prog 48 [.pointer (some ⟨md,0,none⟩),.int .i64 bnd,.agg ⟨L67⟩,.slice sp sn sc] w0 fun v w'=>∃ m1 m2 m3 m4,v=.func (.func 75) #[] ⟨[.pointer (some ⟨m1,0,none⟩),.pointer (some ⟨m2,0,none⟩),.pointer (some ⟨m3,0,none⟩),.pointer (some ⟨m4,0,none⟩)]⟩∧Mem w0 w' No [(m1,.row 64 [.slice sp sn sc]),(m4,.row 26 L67),(m3,.row 3 [.int .i64 bnd]),(m2,.row 67 [.pointer (some ⟨md,0,none⟩)])]:=by
 refine aH Tryz.func48 fun κ _ Je Jc hm=>?_
 refine au 2 ?_
 refine bT hm fun m1 w hm=>?_
 refine bT hm fun m2 w hm=>?_
 refine bT hm fun m3 w hm=>?_
 refine bT hm fun m4 w hm=>?_
 refine au 11 ?_
 exact ⟨_,_,_,_,rfl,hm⟩
theorem Iw(md:Nat)(bnd oo nn:Int)(fl:Th)(q:Tg)(cq:Nat)(cs:List aa)(f N:Nat)(bN:Int)(H:Nat→UInt8)(sp:Tg)(sc:Nat)(ks:Tl)(m1 m2 m3 m4 yl:Nat)(I:Tf→Nat→World→Prop)(Z:Tf)(D E:Pl.Dv)(n:Nat)(c:Int)(w0:World)(hN:NwOk bnd oo nn fl (cs.map aa.cm))(h0:N≠0)(FU:(Pl.hh (Pl.bu fl) (Pl.bu (Pl.bQ fl (cs.map aa.cm) nn.toNat)))=H)(oz:Pl.KE (Pl.eU oo nn H (cs.map aa.cm))=bN)(rO:0≤bN∧bN≤18446744073709551615)(yi:(Pl.eU oo nn H (cs.map aa.cm)).length≤1000000000000)(vp:∀ k∈ks,Pl.aA k.1∧0≤k.2∧k.2≤18446744073709551615)(tY:ks.length≤1000∧ks.length≤sc)(cK:∀ F i w,I F i w→w.heap[m1]?=some (ag.row 64 [.slice sp ks.length sc]).Jd∧w.heap[m2]?=some (ag.row 67 [.pointer (some ⟨md,0,none⟩)]).Jd∧w.heap[m3]?=some (ag.row 3 [.int .i64 bnd]).Jd∧w.heap[m4]?=some (ag.row 26 (aZ oo nn H q cs.length cq)).Jd∧Rd w sp (ks.flatMap xe)∧Rd w q (cs.flatMap JM)∧∀ c∈cs,Q1 w c)(eu:∀ F i w,I F i w→Jr w F)(c6:∀ Z Z' i w w',I Z i w→Mem w w' (Mn (ak Z)) Z'→I Z' i w')(hy:∀ F i w a b d e pk,I F i w→i<n→pk≤max 0 bnd→(i+1=n→e=c)→Yw Tryz.prog yl [.agg ⟨[.int .i64 a,.int .i64 b,.int .i64 d,.int .i64 e,.int .i64 0]⟩,.int .i64 pk] w fun v w'=>v=.bool true∧I F (i+1) w')(hz:JV 112 258 5 D md Z)(h0':I Z 0 w0)(hA:Pl.AttsTo f N bnd bN oo nn fl (cs.map aa.cm) (ks++[((-1:Int),(0:Int))]) D n c E):C Tryz.prog 75 [.func (.yield yl) #[] #[],.pointer (some ⟨m1,0,none⟩),.pointer (some ⟨m2,0,none⟩),.pointer (some ⟨m3,0,none⟩),.pointer (some ⟨m4,0,none⟩)] w0 fun v w'=>v=.tuple ⟨[]⟩∧∃ Z',JV 112 258 5 E md Z'∧I Z' n w':=by
 obtain ⟨Bp,Du,NA,hr4,hr5,P8,hr7⟩:=cK _ _ _ h0'
 have re:=hN.bn
 refine aH Tryz.func75 fun κ _ Je Jc hm=>?_
 refine au 2 ?_
 refine Ja rfl rfl (Jh rfl sc64.h (Qo Bp) rfl)<|Ja rfl rfl (Jh rfl sc64.h (Qo Bp) rfl)<|au 1 ?_
 refine Ja rfl rfl (Jh rfl sc64.h (Qo Bp) rfl)<|au 1 ?_
 refine Ja rfl rfl (tp rfl sl64.h rfl rfl Ta tY.2)<|au 1 ?_
 refine Jb (l:=[_,_]) rfl rfl sl64.h z57.h rfl rfl rfl rfl rfl rfl rfl hm trivial fun m17 w jca hm hh=>pt rfl rfl rfl rfl rfl rfl sl64.h sl64.h z57.h rfl (Rd.JL (hm.get (k:=0) rfl)) rfl (hr5.Jj hm.to) (ve ks) Ta hm Ta Ta fun aM cD dK w az hm=>?_
 have az:=az.to (show ks.flatMap xe++[.int .i64 (-1),.int .u64 0]=(ks++[((-1:Int),(0:Int))]).flatMap xe by rw [Lh]; rfl)
 refine au 5 ?_
 refine Jg (ι:=Nat×Pl.Dv×List (Nat×ag)) rfl (ks:=[0,2,3,4,18,19]) Tn (fun x=>[(20,.int .i64 (x.1:Int))]) (fun x w=>I ((cD,dK)::x.2.2) x.1 w∧JV 112 258 5 x.2.1 md x.2.2∧∃ m,Pl.AttsTo f N bnd bN oo nn fl (cs.map aa.cm) ((ks++[((-1:Int),(0:Int))]).drop x.1) x.2.1 m c E∧x.1+m=n) (fun x=>(ks++[((-1:Int),(0:Int))]).length-x.1) (0,D,Z) (⟨c6 _ _ _ _ _ h0' (W3 (eu _ _ _ h0') (hm.pick [0] rfl)),hz,n,hA,LV _⟩) Tm (fun x w hM=>?_)
 obtain ⟨i,D1,Zd⟩:=x
 obtain ⟨hI,bZ,m,E7,cR⟩:=hM
 simp only at hI bZ E7 cR
 have hm:=(eu _ _ _ hI).start
 refine au 6 ?_
 refine cd (fun ai=>?_) fun ai=>?_
 ·
  simp only [dT] at ai
  obtain ⟨k,hi⟩:∃ k,(ks++[((-1:Int),(0:Int))])[i]?=some k:=⟨_,La (by simp only [Lc,LG]; omega)⟩
  have ZT:Pl.aA k.1∧0≤k.2∧k.2≤18446744073709551615:=(Ls.1 (Ld hi)).elim (vp k) (fun h=>by rw [Lf.1 h]; simp only [Pl.aA]; omega)
  have KA:=(Le.1 hi).1
  rw [Pl.drop_cons hi] at E7
  obtain ⟨e1,E1,hA2,Q'⟩:=E6 E7
  have jcb:i<n:=by have:=nG E7; omega
  have W5:i+1=n→e1=c:=fun h=>by
   rcases Q' with ⟨h1,h2,h3,h4⟩ | ⟨h1,m9,h2,h3⟩
   · exact h3.symm
   · have:=nG h3; omega
  obtain ⟨U1,qo,P5⟩:=(az.rd hm 0 rfl).bS nH Tb hi
  cases P5
  refine au 7 ?_
  refine Ja rfl rfl (JU rfl ag57.h (az.rd hm 0 rfl).nt nH hi)<|aT hm fun t7 w hm=>?_
  refine st hm 0 fun w hm=>?_
  obtain ⟨Bp,Du,NA,hr4,hr5,P8,hr7⟩:=cK _ _ _ (c6 _ _ _ _ _ hI hm)
  refine au 4 ?_
  refine Ja rfl rfl (Jh rfl sc67.h (Qo Du) rfl)<|au 4 ?_
  refine cT rfl rfl rfl (Um D1 md Zd _ (Jr.right (A:=[_,_]) hm.Jz) bZ k.1 k.2 ZT.1 ZT.2) fun v w hR=>?_
  obtain ⟨rfl,Z1,da,ae⟩:=hR
  replace hm:=Mem.JQ (A:=[_,_]) hm ae
  obtain ⟨Bp,Du,NA,hr4,hr5,P8,hr7⟩:=cK _ _ _ (c6 _ _ _ _ _ hI hm)
  refine au 4 ?_
  refine Ja rfl rfl (Jh rfl sc67.h (Qo Du) rfl)<|Ja rfl rfl (Jh rfl sc3.h (Qo NA) rfl)<|Ja rfl rfl (Jm (s:=67) (vs:=aZ oo nn H _ cs.length cq) rfl ag26.h (Qo hr4) rfl)<|cT rfl rfl rfl (W2 (Pl.jQ D1 k.1 k.2) md Z1 bnd oo nn fl q cq cs f N bN H e1 E1 _ (Jr.right (A:=[_,_]) hm.Jz) da hN h0 FU oz rO yi (fun w9 L9 FV=>(cK _ _ _ (c6 _ _ _ _ _ hI (Mem.JQ (A:=[_,_]) hm FV))).2.2.2.2.2) hA2) fun v w hR=>?_
  obtain ⟨K,B,a1,b1,c1,FP,j1,R1,Z2,rfl,jh,r7,ae⟩:=hR
  replace hm:=Mem.JQ (A:=[_,_]) hm ae
  refine au 3 ?_
  refine aT hm fun t8 w hm=>?_
  refine st hm 0 fun w hm=>?_
  refine au 4 ?_
  refine dw [0,3,6,10,2,13,15,18,21,24,27,30,33] hm fun w hw ar hh hm=>?_
  refine au 3 ?_
  refine cB rfl rfl rfl (Ph K.md K.ma K.bnd FP K.oo K.nn K.H K.q K.cs.length K.cq K.mp j1 B.st B.nx B.sg _ (hm.get (k:=3) rfl)) hm hh fun w hm hh=>au 1 ?_
  have yf:=c6 _ _ _ _ _ hI (Pm (R:=R1) (Z:=Z2) (hm.Jp [2,0,3] 4 rfl))
  refine XM rfl rfl rfl rfl (hy _ _ _ _ _ _ _ _ yf jcb jh W5) fun v w hR=>⟨trivial,?_⟩
  obtain ⟨rfl,Ag⟩:=hR
  have hm:=(eu _ _ _ Ag).start
  refine au 9 ?_
  refine cd (fun ao=>?_) fun ao=>?_
  ·
   simp only [dT] at ao
   obtain ⟨-,h8,h9,h7⟩:=Q'.resolve_right (fun h=>ao h.1)
   refine au 5 ?_
   refine dD (fin Je rfl .nil .nil ?_)
   exact ⟨rfl,Z2,h7▸r7,by rw [show n=i+1 by omega]; exact c6 _ _ _ _ _ Ag (W4 (eu _ _ _ Ag))⟩
  ·
   simp only [dF,Classical.not_not] at ao
   refine au 7 ?_
   obtain ⟨-,m9,rfl,hA3⟩:=Q'.resolve_left (fun h=>h.1 ao)
   exact next (i+1,E1,Z2) Td ⟨c6 _ _ _ _ _ Ag (jb9 (eu _ _ _ Ag)),r7,m9,hA3,Td⟩ ⟨nx i,Tm⟩
 ·
  simp only [dF] at ai
  rw [List.drop_eq_nil_of_le (by simp only [Lc,LG]; omega)] at E7
  have hF:=E5 E7
  refine au 4 ?_
  refine eK (fin Jc rfl .nil .nil ?_)
  exact hF.elim
theorem yP{f N:Nat}{b k oo nn:Int}{fl:Th}{cs:List Pl.Cm}:∀ {l:Tl} {D E:Pl.Dv} {n:Nat} {c:Int},Pl.AttsTo f N b k oo nn fl cs l D n c E→n≤l.length
 | _,_,_,_,_,.last _ _=>by simp
 | _,_,_,_,_,.more _ h=>by have:=yP h; simp only [Li]; omega
theorem W6(md:Nat)(Z:Tf)(D E:Pl.Dv)(nA:Nat)(c:Int)(bnd oo nn:Int)(fl:Th)(q:Tg)(cq:Nat)(cs:List aa)(f N:Nat)(bN:Int)(H:Nat→UInt8)(sp:Tg)(sc:Nat)(ks:Tl)(w0:World)(hZ:Jr w0 Z)(hz:JV 112 258 5 D md Z)(hN:NwOk bnd oo nn fl (cs.map aa.cm))(h0:N≠0)(FU:(Pl.hh (Pl.bu fl) (Pl.bu (Pl.bQ fl (cs.map aa.cm) nn.toNat)))=H)(oz:Pl.KE (Pl.eU oo nn H (cs.map aa.cm))=bN)(rO:0≤bN∧bN≤18446744073709551615)(yi:(Pl.eU oo nn H (cs.map aa.cm)).length≤1000000000000)(vp:∀ k∈ks,Pl.aA k.1∧0≤k.2∧k.2≤18446744073709551615)(tY:ks.length≤1000∧ks.length≤sc)(hq:∀ w L,Mem w0 w (Mn (ak Z)) L→Rd w sp (ks.flatMap xe)∧Rd w q (cs.flatMap JM)∧∀ c∈cs,Q1 w c)(hA:Pl.AttsTo f N bnd bN oo nn fl (cs.map aa.cm) (ks++[((-1:Int),(0:Int))]) D nA c E):C Tryz.prog 24 [.pointer (some ⟨md,0,none⟩),.int .i64 bnd,.agg ⟨aZ oo nn H q cs.length cq⟩,.slice sp ks.length sc] w0 fun v w'=>∃ (p:Tg) (cap:Nat) (pk:Int),v=.agg ⟨[.slice p nA cap,.bool (decide (c=0)),.int .i64 pk]⟩∧pk≤max 0 bnd∧∃ Z',JV 112 258 5 E md Z'∧Mem w0 w' (Mn (ak Z)) Z':=by
 have hna:nA≤ks.length+1:=by have:=yP hA; simpa using this
 have hna1:=nG hA
 refine Zt Tryz.func24 rfl rfl rfl fun κ _ Je Jc=>?_
 have hm:=hZ.start
 refine au 2 ?_
 refine bT hm fun bx w hm=>?_
 refine aT hm fun m8 w hm=>?_
 refine au 4 ?_
 refine aT hm fun rr w hm=>?_
 replace hm:=hm.JP
 have aG:=Acc.nil 72 5 none 0
 refine au 7 ?_
 refine Ja rfl rfl (Jm (s:=67) (vs:=aZ oo nn H _ cs.length cq) rfl ag26.h (hm.nt 3 rfl) rfl)<|au 1 ?_
 refine cT rfl rfl rfl (Pn md bnd _ rfl sp ks.length sc _) fun v w hR=>?_
 obtain ⟨q1,q2,q3,q4,rfl,ae⟩:=hR
 replace hm:=hm.Jt ae
 refine au 3 ?_
 refine VJ rfl rfl go75 hm fun a_ fn r0 l w LB jF dV Km Kn hm=>C.mono (Iw md bnd oo nn fl q cq cs f N bN H sp sc ks q1 q2 q3 q4 l (fun F i w=>∃ (p:Tg) (n cap g:Nat) (b:ag) (dn:Bool) (pk:Int) (cells:Ti),Mem w0 w (Mn (ak Z)) ((l,LB .ready none)::(r0,eh (some []))::(q1,.row 64 [.slice sp ks.length sc])::(q4,.row 26 (aZ oo nn H q cs.length cq))::(q3,.row 3 [.int .i64 bnd])::(q2,.row 67 [.pointer (some ⟨md,0,none⟩)])::(g,b)::(rr,.row 44 [.slice p n cap,.bool dn,.int .i64 pk])::(m8,.row 44 [.slice none 0 0,.bool false,.int .i64 0])::(bx,.row 26 (aZ oo nn H q cs.length cq))::F)∧Acc 72 5 p n cap cells g b∧n=i∧pk≤max 0 bnd∧(i=nA→dn=decide (c=0))) Z D E nA c _ hN h0 FU oz rO yi vp tY
  (fun F i w hI=>by obtain ⟨p,n,cap,g,b,dn,pk,cells,hm,-⟩:=hI; exact ⟨hm.get (k:=2) rfl,hm.get (k:=5) rfl,hm.get (k:=4) rfl,hm.get (k:=3) rfl,(hq _ _ hm).1,(hq _ _ hm).2⟩)
  (fun F i w hI=>by obtain ⟨p,n,cap,g,b,dn,pk,cells,hm,-⟩:=hI; exact Jr.right (A:=[_,_,_,_,_,_,_,_,_,_]) hm.Jz)
  (fun Z1 Z2 i w w' hI hc=>by obtain ⟨p,n,cap,g,b,dn,pk,cells,hm,h9⟩:=hI; exact ⟨p,n,cap,g,b,dn,pk,cells,Mem.JQ (A:=[_,_,_,_,_,_,_,_,_,_]) hm hc,h9⟩)
  (fun F i w a b d e pk hI hi jh he=>?_) hz ⟨_,_,_,_,_,_,_,_,hm,aG,rfl,Int.le_max_left ..,fun h=>by omega⟩ hA) (fun v w hR=>?_)
 ·
  subst jF
  obtain ⟨dL,Po,aO,eX,eY,dn,pk0,cells,hm,aG,W7,W8,eB⟩:=hI
  refine Yw.of dV (hm.get (k:=0) rfl) rfl rfl<|au 2 ?_
  refine aT hm fun xt w hm=>?_
  refine st hm 0 fun w hm=>?_
  refine au 5 ?_
  refine Xf hm 1 rfl fun w hm=>XC rfl<|Qb rfl<|JT (.pure 0 (.pure 1 (.pure 2 (.act 3 (.act 4 (.pure 5 (.act 6 .done))))))) Te<|Ja rfl rfl (Jv rfl fo44_0.h)<|Ja rfl rfl (Jh rfl sc42.h (hm.nt 8 rfl) rfl)<|Ja rfl rfl (Jm (s:=5) (vs:=[_,_,_,_,_]) rfl ag72.h (hm.nt 0 rfl) rfl)<|Jb (l:=[_,_,_,_,_]) rfl rfl sl42.h z72.h rfl rfl rfl rfl rfl rfl rfl hm trivial fun m5 w fQ hm hh=>Jy rfl rfl rfl rfl rfl rfl sl42.h sl42.h z72.h rfl rfl (Rd.JL (hm.get (k:=0) rfl)) rfl aG hm 8 rfl Ta Ta fun dL aO eX eY w aG hm=>au 1 ?_
  refine st hm 9 fun w hm=>?_
  refine au 7 ?_
  refine Ja rfl rfl (sD rfl rfl iii46)<|au 1 ?_
  refine st hm 9 fun w hm=>?_
  refine Qc<|QV<|JT (.pure 0 (.pure 1 (.pure 2 (.pure 3 (.pure 4 (.act 5 .done)))))) Te<|Ja rfl rfl (Jv rfl fo44_2.h)<|Ja rfl rfl (Jh rfl sc3.h (hm.nt 9 rfl) rfl)<|Ja rfl rfl (Jx rfl)<|Ja rfl rfl (IQ rfl rfl)<|Ja rfl rfl (Jv rfl fo44_2.h)<|st hm 9 fun w hm=>?_
  refine au 2 ?_
  exact gz hm 2 rfl fun w hm=>⟨rfl,dL,_,aO,eX,eY,_,_,_,(hm.Jp [2,3,4,5,6,7,8,9,10,11] 12 rfl),aG,Ta,Ta,fun h=>by rw [he h]; simp⟩
 ·
  subst jF
  obtain ⟨rfl,Z1,bZ,hI⟩:=hR
  obtain ⟨dL,Po,aO,eX,eY,dn,pk0,cells,hm,aG,W7,W8,eB⟩:=hI
  subst W7
  obtain rfl:=eB rfl
  refine ⟨.ready,none,nofun,hm.get (k:=0) rfl,fun w4 oh=>?_⟩
  replace hm:=Xw hm oh
  refine au 5 ?_
  refine st hm 7 fun w hm=>?_
  refine au 3 ?_
  refine dD (ly Je rfl hm 0 rfl .one fun w hm=>⟨(.cell rfl (Ju (vs:=[_,_,_]) ag44.h (hm.get (k:=7) rfl) rfl) .nil),?_⟩)
  exact ⟨dL,aO,pk0,rfl,W8,Z1,bZ,(hm.Jp [] 9 rfl)⟩
end Go.Proofs.YtaehgpeenaomcaaGreat
namespace Go.Pl
open Go Go.Cx Go.Proofs.YtaehgpeenaomcaaGreat
def Ix(sz:Nat)(b oo nn:Int)(fl:Th)(ks:Tl)(nA:Nat)(cs:List Pl.Cm):Prop:=
 ∃ (f N:Nat) (bN:Int) (E:Pl.Dv),Pl.KE (Pl.eU oo nn (Pl.hh (Pl.bu fl) (Pl.bu (Pl.bQ fl cs nn.toNat))) cs)=bN∧(0≤bN∧bN≤18446744073709551615)∧(Pl.eU oo nn (Pl.hh (Pl.bu fl) (Pl.bu (Pl.bQ fl cs nn.toNat))) cs).length≤1000000000000∧NwOk b oo nn fl cs∧Pl.X7 sz b oo nn=0∧Pl.qv sz oo nn=(f:Int)∧Pl.slot sz b=(N:Int)∧N≠0 ∧
  Pl.right sz ((f+2*N:Nat):Int) fl.length=true∧Pl.AttsTo f N b bN oo nn fl cs (ks++[((-1:Int),(0:Int))]) (Pl.jR sz (f+2*N) fl) nA 0 E∧E.dk.take nn.toNat=Pl.bQ fl cs nn.toNat∧nn.toNat<E.dk.length
end Go.Pl
namespace Go.Proofs.YtaehgpeenaomcaaGreat
open Go Go.Cx
theorem pY:∀ (bs:Th) (n:Nat),(bs.take n).flatMap Jk=(bs.flatMap Jk).take n
 | [],n=>by simp
 | b::r,0=>by simp
 | b::r,n+1=>by rw [List.take_succ_cons,Lk,Lk,pY r n]; rfl
theorem Yq{fl:Th}{cs:List Pl.Cm}{n:Nat}:(Pl.bQ fl cs n).length=n:=by unfold Pl.bQ; rw [Lj,List.length_range]
theorem pZ(r:Tg)(cr:Nat)(fl:Th)(q:Tg)(cq:Nat)(cs:List aa)(oo nn:Int)(H:Nat→UInt8)(sz:Nat)(bnd:Int)(sp:Tg)(sc:Nat)(ks:Tl)(nA:Nat)(w0:World)(hH:Pl.hh (Pl.bu fl) (Pl.bu (Pl.bQ fl (cs.map aa.cm) nn.toNat))=H)(hf:Rd w0 r (fl.flatMap Jk))(bY:fl.length≤cr∧fl.length≤1000000)(eD:cr≠0→∀ ad,r=some ad→ad.spot=none)(hq:Rd w0 q (cs.flatMap JM))(hl:cs.length≤100)(aq:∀ c∈cs,Q1 w0 c)(cO:∀ c∈cs,c.d.bs.length≤140737488355328)(hv:Pl.VD oo nn (cs.map aa.cm))(ho:oo=fl.length)(hn:nn≤1000000)(hsz:sz≤1000000)(re:1≤bnd∧bnd≤65536)(cU:Rd w0 sp (ks.flatMap xe))(vp:∀ k∈ks,Pl.aA k.1∧0≤k.2∧k.2≤18446744073709551615)(tY:ks.length≤1000∧ks.length≤sc)(hA:∀ ds,Pl.ET fl cs ds→Pl.Ix sz bnd oo nn fl ks nA ds):C Tryz.prog 12 [.slice r fl.length cr,.agg ⟨aZ oo nn H q cs.length cq⟩,.int .i64 (sz:Int),.int .i64 bnd,.slice sp ks.length sc] w0 fun v w'=>∃ (p:Tg) (cap g:Nat) (b:ag) (pa:Tg) (ca:Nat) (pk:Int),v=.tuple ⟨[.slice p (Pl.bQ fl (cs.map aa.cm) nn.toNat).length cap,.agg ⟨[.slice pa nA ca,.bool true,.int .i64 pk]⟩,.agg ⟨[.int .i64 0,.int .i64 0]⟩]⟩∧pk≤max 0 bnd∧(∃ ad,p=some ad)∧Acc 5 1 p (Pl.bQ fl (cs.map aa.cm) nn.toNat).length cap ((Pl.bQ fl (cs.map aa.cm) nn.toNat).flatMap Jk) g b∧Mem w0 w' No [(g,b)]:=by
 have pB:=hv.lens
 obtain ⟨KZ,NC⟩:∃ x:Nat,nn=x:=⟨nn.toNat,Ta⟩
 have Bq:(Pl.bQ fl (cs.map aa.cm) nn.toNat).length=KZ:=by rw [Yq]; omega
 refine aH Tryz.func12 fun κ _ Je Jc hm=>?_
 refine au 2 ?_
 refine bT hm fun bx w hm=>?_
 refine au 1 ?_
 refine aT hm fun m11 w hm=>?_
 refine aT hm fun m12 w hm=>?_
 refine au 5 ?_
 refine Ja rfl rfl (Jm (s:=67) (vs:=aZ oo nn H _ _ _) rfl ag26.h (hm.nt 2 rfl) rfl) ?_
 have cM:=A0 oo nn q cq cs _ (hq.Jj hm.to) hl (fun c hc=>Q1.mono (aq c hc) hm.to) cO hv r cr fl (hf.Jj hm.to) bY eD ho hn
 rw [hH] at cM
 refine cT rfl rfl rfl cM fun v w hR=>?_
 obtain ⟨ds,p_d,n_d,yk,g_d,b_d,B_d,rfl,rj,WO,jcc,ae⟩:=hR
 obtain rfl:=rj.QB Jf Tb
 replace hm:=hm.VZ ae
 obtain ⟨H5,sb,-⟩:=rJ ho hv WO
 obtain ⟨f,N,bN,E,oz,rO,yi,hN,hle,hlf,jn,h0,G7,hAt,hEt,nk⟩:=hA _ WO
 have FU:Pl.hh (Pl.bu fl) (Pl.bu (Pl.bQ fl (ds.map aa.cm) nn.toNat))=H:=by rw [sb]; exact hH
 rw [FU] at oz yi
 have W0:qy sz bnd oo nn=[.int .i64 (sz:Int),.int .i64 bnd,.int .i64 0,.int .i64 (max oo nn),.int .i64 (f:Int),.int .i64 (2*(N:Int)),.int .i64 ((f:Int)+2*N)]:=by unfold qy; rw [hle,hlf,jn]; rfl
 refine au 3 ?_
 refine aT hm fun cv w hm=>?_
 refine aT hm fun cf w hm=>?_
 refine st hm 1 fun w hm=>?_
 replace hm:=Xu hm rfl
 refine st hm 0 fun w hm=>?_
 refine au 7 ?_
 refine Ja rfl rfl (JA (c:=false) (jo rfl rfl iii46) Tb)<|au 9 ?_
 refine Ja rfl rfl (Jm (s:=67) (vs:=aZ oo nn H _ _ _) rfl ag26.h (hm.nt 1 rfl) rfl)<|cA rfl rfl rfl (G3 (sz:Int) bnd oo nn _ _ (by simp only [Pl.aA]; omega) (by simp only [Pl.aA]; omega) (by simp only [Pl.aA]; omega) (by simp only [Pl.aA]; omega)) hm fun w hm=>au 1 ?_
 refine Ja rfl rfl (cy (J7 rfl rfl) (LM (fun x=>Value.agg ⟨x⟩) W0))<|Ja rfl rfl (cy (J7 rfl rfl) (LM (Value.int .i64) hle))<|aT hm fun lw w hm=>?_
 refine st hm 0 fun w hm=>?_
 refine au 7 ?_
 refine Ja rfl rfl (JA (c:=false) (XD rfl rfl) Tb)<|Qc<|QV<|Ye rfl rfl rfl<|j8 rfl<|QV<|Qb rfl<|JT (.pure 0 (.pure 1 (.act 2 (.act 3 (.pure 4 (.pure 5 (.pure 6 (.pure 7 (.pure 8 .done))))))))) Te<|Ja rfl rfl (Jm (s:=7) (vs:=[_,_,_,_,_,_,_]) rfl ag34.h (hm.nt 0 rfl) rfl)<|Ja rfl rfl (Jx rfl)<|Jb (l:=[_]) rfl rfl sl88.h z22.h rfl rfl rfl rfl rfl rfl rfl hm trivial fun m7 w Dz hm hh=>cT rfl rfl rfl (Hs sz (f+2*N) _ _ _ _ _ _ 0 _ 1 [⟨r,cr,fl⟩] fl _ (Rd.JL (hm.get (k:=0) rfl)) (by intro s9 eT; rw [Lf.1 eT]; exact hf.Jj hm.to) Tc Tc Ta (Int.le_refl _) Ta Ta G7) fun v w hR=>?_
 obtain ⟨md,Zd,rfl,hz,ae⟩:=hR
 replace hm:=Mem.MN (A:=[_,_,_,_,_,_,_,_]) hm ae
 refine au 11 ?_
 refine Ja rfl rfl (JA (c:=false) (XD rfl rfl) Tb)<|au 9 ?_
 refine Ja rfl rfl (Jm (s:=67) (vs:=aZ oo nn H _ _ _) rfl ag26.h (hm.nt 3 rfl) rfl) ?_
 have cM:=W6 md Zd _ E nA 0 bnd oo nn fl p_d yk ds f N bN H sp sc ks _ (Jr.right (A:=B_d) (Jr.right (A:=[_,_,_,_,_,_,_,_]) hm.Jz)) hz hN h0 FU oz rO yi vp tY (fun w9 L9 h9=>have FV:=Mem.Cp (A:=[_,_,_,_,_,_,_,_]) hm h9; ⟨cU.Jj FV.to,rj.rd FV 4 rfl,fun c hc=>Ya FV (jcc c hc) (fun e he=>Ly _ (Lw _ he)) (H5.one c.cm (Ln.2 ⟨c,hc,rfl⟩))⟩) hAt
 refine au 1 ?_
 refine cT rfl rfl rfl cM fun v w hR=>?_
 obtain ⟨dL,aO,pk,rfl,jh,Z1,bZ,ae⟩:=hR
 replace hm:=Mem.Cp (A:=[_,_,_,_,_,_,_,_]) hm ae
 refine aT hm fun rp w hm=>?_
 refine st hm 0 fun w hm=>?_
 refine au 7 ?_
 refine Ja rfl rfl (JA (c:=false) (kY rfl) Tb)<|au 6 ?_
 refine JS (.pure 0 (.pure 2 (.pure 3 (.pure 5 (.pure 6 (.act 1 (.pure 4 (.pure 7 (.act 8 (.cut (.act 9 .done))))))))))) (fun j=>j=m11) fP Te hm fun w hw ar hh=>?_
 have hm:=ar
 refine au 2 ?_
 refine Ja rfl rfl (cy (Jh rfl sc3.h (ar.nd 4 rfl (ar.ne 4 7 rfl rfl rfl)) rfl) (LM (Value.int .i64) NC))<|Ja rfl rfl (Jm (s:=3) (vs:=[_,_,_]) rfl ag44.h (ar.nd 0 rfl (ar.ne 0 7 rfl rfl rfl)) rfl)<|au 1 ?_
 refine ca rfl rfl rfl (Nr E md Z1 _ (Jr.right (A:=B_d) (Jr.right (A:=[_,_,_,_,_,_,_,_,_]) hm.Jz)) bZ) fun v w hR=>?_
 obtain ⟨OZ,nC,g_k,P',rfl,ji,ae⟩:=hR
 refine ⟨hh.ext ae.to,?_⟩
 replace hh:=hh.ext ae.to
 replace hm:=hm.Jt ae
 have tY:=ji.le
 refine Ja rfl rfl (cy (JE (ln:=0) (hn:=KZ) rfl sl22.h rfl ⟨_,rfl⟩ (LL _) Ta (fun h=>ji.spot h)) (show _=Value.slice OZ KZ nC by rw [VR ji.spot]; rfl))<|au 1 ?_
 refine QO rfl rfl rfl rfl sz44 rfl hm 8 rfl rfl hh (.inr rfl) fun w hm hh=>au 1 ?_
 refine st hm 7 fun w hm=>?_
 refine au 3 ?_
 refine dD (fin Je rfl (.tmp rfl (.cell rfl (Ju (vs:=[_,_,_]) ag44.h (hm.get (k:=8) rfl) rfl) (.cell rfl (Ju (vs:=[_,_]) ag46.h (hm.get (k:=7) rfl) rfl) .nil))) .more ?_)
 refine ⟨OZ,nC,g_k,P',dL,aO,pk,by rw [Bq]; rfl,jh,ji.cases'.elim (fun h=>absurd h.1 Ta) fun ⟨_,h,_⟩=>⟨_,h⟩,?_,(hm.pick [0] rfl)⟩
 have ha9:=ji.head (i:=KZ) Ta
 have mS:(E.dk.flatMap Jk).take (KZ*1)=(Pl.bQ fl (cs.map aa.cm) nn.toNat).flatMap Jk:=by rw [← sb,← hEt,Nat.mul_one,show nn.toNat=KZ by omega]; exact (pY _ _).symm
 rw [Bq]
 exact mS▸ha9
end Go.Proofs.YtaehgpeenaomcaaGreat
namespace Go.Proofs.YtaehgpeenaomcaaGreat
open Go Go.Shelf Go.RowKit Go.Lib Go.Sort Go.Proofs
def W9:Ren:=⟨fun x=>match x with | 185=>51 | 187=>79 | 115=>80 | 253=>81 | 224=>82 | 254=>83 | 255=>113 | 291=>114 | n=>n,fun x=>match x with | 37=>22 | 46=>151 | 146=>184 | 51=>120 | n=>n,fun x=>match x with | 1=>0 | n=>n⟩
theorem jcd:Lays.n185 Tryz.prog W9:={ mixed:=by kernel_rfl,f115:=Tryz.func80,f185:=Tryz.func51,f187:=Tryz.func79,f224:=Tryz.func82,f253:=Tryz.func81,f254:=Tryz.func83,f255:=Tryz.func113,f291:=Tryz.func114,t0:=Tryz.underlying0,a0:=Tryz.isAgg0,z0:=Tryz.sizeOf0,v0:=Tryz.zeroValue0,t3:=Tryz.underlying3,a3:=Tryz.isAgg3,z3:=Tryz.sizeOf3,v3:=Tryz.zeroValue3,t4:=Tryz.underlying4,a4:=Tryz.isAgg4,z4:=Tryz.sizeOf4,v4:=Tryz.zeroValue4,t5:=Tryz.underlying5,a5:=Tryz.isAgg5,z5:=Tryz.sizeOf5,v5:=Tryz.zeroValue5,t9:=Tryz.underlying9,a9:=Tryz.isAgg9,z9:=Tryz.sizeOf9,v9:=Tryz.zeroValue9,t37:=Tryz.underlying22,a37:=Tryz.isAgg22,z37:=Tryz.sizeOf22,v37:=Tryz.zeroValue22,t46:=Tryz.underlying151,a46:=Tryz.isAgg151,z46:=Tryz.sizeOf151,v46:=Tryz.zeroValue151,t51:=Tryz.underlying120,a51:=Tryz.isAgg120,z51:=Tryz.sizeOf120,v51:=Tryz.zeroValue120,t146:=Tryz.underlying184,a146:=Tryz.isAgg184,z146:=Tryz.sizeOf184,v146:=Tryz.zeroValue184,g1:=by kernel_rfl }
end Go.Proofs.YtaehgpeenaomcaaGreat
namespace Go.Cx
open Go Go.Shelf Go.Proofs Go.RowKit
def Gz(w:World):Prop:=∃ m,w.cell? ⟨0,0,none⟩=some (.int .i64 m)
theorem Gz.to{w w':World}(h:Gz w)(hx:Ext No w w'):Gz w':=by
 obtain ⟨m,hm⟩:=h
 have hl:=qp hm
 have he:=hx.same 0 hl id
 refine ⟨m,?_⟩
 unfold World.cell? at hm ⊢
 simp only at hm he ⊢
 rw [he]
 exact hm
theorem iw(xs:Th):Lib.bytesOf (xs.map fun b=>(b.toNat:Int))=xs:=by
 unfold Lib.bytesOf
 rw [List.map_map]
 conv=>rhs; rw [← List.map_id xs]
 refine List.map_congr_left fun b _=>?_
 simp
theorem K2{w:World}{a:Addr}{xs:Th}(hr:Rd w (some a) (xs.flatMap Jk)):∀ i,i<xs.length→w.cell? (a.add i)=some (.int .u8 ((xs.map fun b=>(b.toNat:Int)).getD i 0)):=fun i hi=>by
 have bO:xs.flatMap Jk≠[]:=fun e=>by rw [vK e] at hi; simp at hi
 have h1:=hr.1 bO
 obtain ⟨b,o,sp⟩:=a
 simp only at h1
 subst h1
 rw [Lib.add_plain']
 refine hr.2 i _ ?_
 rw [YV,La hi,List.getD_eq_getElem?_getD,Lt,La hi]
 rfl
theorem bxI{P:Program}{ρ:Ren}(L:Lays.n185 P ρ)(Mt:ρ.g 1=0)(a1 a2:Addr)(c1 c2:Nat)(xs ys:Th)(w0:World)(hp:Rd w0 (some a1) (xs.flatMap Jk))(hq:Rd w0 (some a2) (ys.flatMap Jk))(hl:xs.length≤1000000∧xs.length≤c1)(h2:ys.length≤1000000)(hg:Gz w0) :
 C P (ρ.f 185) [.slice (some a1) xs.length c1,.slice (some a2) ys.length c2] w0 fun v w'=>v=.int .i64 (Lib.index xs ys)∧Ext No w0 w':=by
 obtain ⟨m,hm⟩:=hg
 refine Calls.mono (Any.bytes_Index_at L a1 a2 xs.length c1 ys.length c2 (xs.map fun b=>(b.toNat:Int)) (ys.map fun b=>(b.toNat:Int)) m w0 (Lj _) (Lj _) ?_ ?_ (K2 hp) (K2 hq) hl.2 Ta Ta (by rw [Mt]; exact hm)) fun e w' h=>?_
 · intro x hx
   obtain ⟨b,_,rfl⟩:=Ln.1 hx
   have:=b.toNat_lt
   omega
 · intro x hx
   obtain ⟨b,_,rfl⟩:=Ln.1 hx
   have:=b.toNat_lt
   omega
 · obtain ⟨rfl,q,rfl⟩:=h
   refine ⟨_,rfl,?_,jf q w0⟩
   rw [iw,iw]
end Go.Cx
namespace Go.Proofs.YtaehgpeenaomcaaGreat
open Go Go.Cx
end Go.Proofs.YtaehgpeenaomcaaGreat
namespace Go.Pl
open Go Go.Cx Go.Proofs.YtaehgpeenaomcaaGreat
def kF:Th→Th→Nat
 | x::xs,y::ys=>if x=y then Pl.kF xs ys+1 else 0
 | _,_=>0
def fx(f:Th)(k:Int)(bs:Th):Int×Int:=
 if k<1∨(bs.length:Int)<k then (-1,0)
 else if Lib.index f (bs.take k.toNat)<0 then (-1,0)
 else (Lib.index f (bs.take k.toNat),((k.toNat+Pl.kF (bs.drop k.toNat) (f.drop ((Lib.index f (bs.take k.toNat)).toNat+k.toNat)):Nat):Int))
def E8(g:Th)(p fr:Nat):List Pl.Cm:=if fr<p then [⟨2,fr,0,0,(g.drop fr).take (p-fr)⟩] else []
def jx(f g:Th)(k:Int):Nat→Nat→Nat→List Pl.Cm
 | 0,p,fr=>Pl.E8 g p fr
 | n+1,p,fr=>if p<g.length then (if (Pl.fx f k (g.drop p)).1<0 then Pl.jx f g k n (p+1) fr else Pl.E8 g p fr++(⟨1,p,(Pl.fx f k (g.drop p)).1,(Pl.fx f k (g.drop p)).2,[]⟩::Pl.jx f g k n (p+(Pl.fx f k (g.drop p)).2.toNat) (p+(Pl.fx f k (g.drop p)).2.toNat))) else Pl.E8 g p fr
end Go.Pl
namespace Go.Proofs.YtaehgpeenaomcaaGreat
open Go Go.Cx
theorem Iy:∀ xs:Th,Pl.kF xs []=0
 | []=>rfl
 | _::_=>rfl
theorem xf:∀ xs ys:Th,Pl.kF xs ys≤xs.length∧Pl.kF xs ys≤ys.length
 | [],ys=>by cases ys <;> simp [Pl.kF]
 | x::xs,[]=>by simp [Pl.kF]
 | x::xs,y::ys=>by
  unfold Pl.kF
  have:=xf xs ys
  split <;> simp only [Li] <;> omega
theorem yQ{f bs:Th}{k:Int}(h:0≤(Pl.fx f k bs).1):1≤k∧k≤bs.length∧(Pl.fx f k bs).1=Lib.index f (bs.take k.toNat)∧(Pl.fx f k bs).2=((k.toNat+Pl.kF (bs.drop k.toNat) (f.drop ((Lib.index f (bs.take k.toNat)).toNat+k.toNat)):Nat):Int):=by
 unfold Pl.fx at h ⊢
 split at h
 · simp at h
 · rename_i h1
   rw [LH h1]
   split at h
   · simp at h
   · rename_i h2
     rw [LH h2]
     exact ⟨Ta,Ta,rfl,rfl⟩
theorem Iz(mb mo:Nat)(k:Int)(ra:Addr)(cr:Nat)(f:Th)(w0:World)(Bp:w0.heap[mb]?=some (ag.row 3 [.int .i64 k]).Jd)(Du:w0.heap[mo]?=some (ag.row 22 [.slice (some ra) f.length cr]).Jd)(hf:Rd w0 (some ra) (f.flatMap Jk))(bY:f.length≤1000000∧f.length≤cr)(p:Tg)(cb:Nat)(bs:Th)(hb:Rd w0 p (bs.flatMap Jk))(cO:bs.length≤1000000∧bs.length≤cb)(hk:Pl.aA k)(hg:Gz w0):C Tryz.prog 50 [.slice p bs.length cb,.pointer (some ⟨mb,0,none⟩),.pointer (some ⟨mo,0,none⟩)] w0 fun v w'=>v=.tuple ⟨[.int .i64 (Pl.fx f k bs).1,.int .i64 (Pl.fx f k bs).2]⟩∧Ext No w0 w':=by
 have u0:Pl.fx f k bs=if k<1∨(bs.length:Int)<k then (-1,0) else if (Lib.index f (bs.take k.toNat))<0 then (-1,0) else ((Lib.index f (bs.take k.toNat)),((k.toNat+Pl.kF (bs.drop k.toNat) (f.drop ((Lib.index f (bs.take k.toNat)).toNat+k.toNat)):Nat):Int)):=rfl
 refine aH Tryz.func50 fun κ _ Je Jc hm=>?_
 refine au 8 ?_
 rcases (show k<1∨(1≤k∧(bs.length:Int)<k)∨(1≤k∧k≤bs.length) by omega) with hA | ⟨hA,hB⟩ | ⟨hA,hB⟩
 ·
  rw [LI (.inl hA)] at u0
  refine au 2 ?_
  refine Ja rfl rfl (JA (c:=true) (VO rfl rfl) (LQ hA))<|au 18 ?_
  rw [u0]
  exact ⟨rfl,hm.to⟩
 ·
  rw [LI (.inr hB)] at u0
  refine au 2 ?_
  refine Ja rfl rfl (JA (c:=false) (VO rfl rfl) (LN Ta))<|au 4 ?_
  refine Ja rfl rfl (JA (c:=true) (XE rfl rfl) (LQ Ta))<|au 13 ?_
  rw [u0]
  exact ⟨rfl,hm.to⟩
 ·
  rw [LH Ta] at u0
  obtain ⟨kn,rfl⟩:∃ kn:Nat,k=kn:=⟨k.toNat,Ta⟩
  simp only [LD] at u0
  obtain ⟨x0,fN⟩:∃ x_,bs[0]?=some x_:=⟨_,La Ta⟩
  obtain ⟨qb,qo,rfl⟩:=hb.bS JG Tb fN
  have IW:(bs.take kn).length=kn:=by rw [Lg]; omega
  refine au 2 ?_
  refine Ja rfl rfl (JA (c:=false) (VO rfl rfl) (LN Ta))<|au 4 ?_
  refine Ja rfl rfl (JA (c:=false) (XE rfl rfl) (LN Ta))<|au 7 ?_
  refine dw [0,3,6,9,2,13,15] hm fun w hw ar hh hm=>?_
  refine au 3 ?_
  refine Ja rfl rfl (cy (JE (ln:=0) (hn:=kn) rfl sl22.h rfl ⟨_,rfl⟩ (LL _) Ta (fun h ad e=>by cases e; rfl)) (show _=Value.slice (some ⟨qb,qo,none⟩) (bs.take kn).length cb by rw [VR (fun _ ad e=>by cases e; rfl),IW]; rfl))<|au 1 ?_
  refine cA rfl rfl rfl (bxI jcd rfl ra ⟨qb,qo,none⟩ cr cb f (bs.take kn) _ (hf.Jj hm.to) ((hb.Jj hm.to).BZ kn) bY Ta (hg.to hm.to)) hm fun w hm=>au 10 ?_
  refine cd (fun ao=>?_) fun ao=>?_
  ·
   simp only [dT] at ao
   rw [LI ao] at u0
   refine au 9 ?_
   rw [u0]
   exact ⟨rfl,hm.to⟩
  ·
   simp only [dF] at ao
   rw [LH ao] at u0
   obtain ⟨q,hq⟩:∃ q:Nat,Lib.index f (bs.take kn)=q:=⟨(Lib.index f (bs.take kn)).toNat,Ta⟩
   have hql:Lib.index f (bs.take kn)≤f.length:=Lib.index_le _ _
   rw [hq,LD] at u0
   rw [hq] at hql
   rw [hq]
   refine au 10 ?_
   refine Jg (ι:=Nat) rfl (ks:=[0,2,4,5,6]) Tn (fun n=>[(7,.int .i64 (n:Int))]) (fun n w=>Mem w0 w No []∧n≤bs.length∧n+Pl.kF (bs.drop n) (f.drop (q+n))=kn+Pl.kF (bs.drop kn) (f.drop (q+kn))) (fun n=>bs.length-n) kn (⟨hm,Ta,rfl⟩) Tm (fun n w hM=>?_)
   obtain ⟨hm,sK,FE⟩:=hM
   refine au 2 ?_
   rcases (show bs.length≤n∨(n<bs.length∧f.length≤q+n)∨(n<bs.length∧q+n<f.length) by omega) with E7 | ⟨E7,hB1⟩ | ⟨E7,hB1⟩
   ·
    have Fu:Pl.kF (bs.drop n) (f.drop (q+n))=0:=by rw [List.drop_eq_nil_of_le E7]; rfl
    refine dw [0,3,6,9,12,15,18,21,24,27,30,33,36,39,42,45,48,51,54,57,60,63,66,69,72] hm fun w hw ar hh hm=>?_
    refine au 3 ?_
    refine Ja rfl rfl (JA (c:=false) (VO rfl rfl) (LN Ta))<|au 39 ?_
    have Bt:n=kn+Pl.kF (bs.drop kn) (f.drop (q+kn)):=by omega
    rw [u0,← Bt]
    exact ⟨rfl,hm.to⟩
   ·
    have Fu:Pl.kF (bs.drop n) (f.drop (q+n))=0:=by rw [List.drop_eq_nil_of_le hB1,Iy]
    refine dw [0,3,6,9,12,15,18,21,24,27,30,33,36,39,42,45,48,51,54,57,60,63,66,69,72] hm fun w hw ar hh hm=>?_
    refine au 3 ?_
    refine Ja rfl rfl (JA (c:=true) (VO rfl rfl) (LQ Ta))<|au 6 ?_
    refine Ja rfl rfl (JA (c:=false) (VO rfl rfl) (LN Ta))<|au 32 ?_
    have Bt:n=kn+Pl.kF (bs.drop kn) (f.drop (q+kn)):=by omega
    rw [u0,← Bt]
    exact ⟨rfl,hm.to⟩
   ·
    obtain ⟨x,oQ⟩:∃ x_,bs[n]?=some x_:=⟨_,La E7⟩
    obtain ⟨y,hiy⟩:∃ y_,f[q+n]?=some y_:=⟨_,La hB1⟩
    have hdb:=Pl.drop_cons oQ
    have hdf:=Pl.drop_cons hiy
    obtain ⟨qf,qg,PF⟩:=hf.bS JG Tb hiy
    cases PF
    refine dw [0,3,6,9,12,15,18,21,24,27,30,33,36,39,42,45,48,51,54,57,60,63,66,69,72] hm fun w hw ar hh hm=>?_
    refine au 3 ?_
    refine Ja rfl rfl (JA (c:=true) (VO rfl rfl) (LQ Ta))<|au 6 ?_
    refine Ja rfl rfl (JA (c:=true) (VO rfl rfl) (LQ Ta))<|au 5 ?_
    refine Ja rfl rfl (J3 rfl sc5.h (hb.Jj ar.to).nd JG oQ rfl)<|au 3 ?_
    refine Ja rfl rfl (cy (J5 rfl rfl (Ql Ta Ta)) (show Value.int .i64 ((q:Int)+n)=.int .i64 ((q+n:Nat):Int) by rw [Int.natCast_add]))<|au 1 ?_
    refine Ja rfl rfl (J3 rfl sc5.h (hf.Jj ar.to).nd JG hiy rfl)<|au 4 ?_
    refine cd (fun aD=>?_) fun aD=>?_
    ·
     simp only [dT] at aD
     have hxy:x=y:=UInt8.toNat_inj.1 Ta
     refine au 9 ?_
     exact next (n+1) Ta ⟨hm,Ta,by rw [← FE,hdb,hdf,hxy]; simp only [Pl.kF,if_true,Nat.add_assoc]; omega⟩ ⟨nx n,Tm⟩
    ·
     simp only [dF] at aD
     have hxy:x≠y:=fun h=>aD (by rw [h])
     have Fu:Pl.kF (bs.drop n) (f.drop (q+n))=0:=by rw [hdb,hdf]; simp only [Pl.kF,LH hxy]
     refine au 15 ?_
     have Bt:n=kn+Pl.kF (bs.drop kn) (f.drop (q+kn)):=by omega
     rw [u0,← Bt]
     exact ⟨rfl,hm.to⟩
theorem A8(k:Int)(r:Tg)(n cr:Nat)(w0:World):C Tryz.prog 26 [.slice r n cr,.int .i64 k] w0 fun v w'=>∃ mb mo,v=.func (.func 50) #[] ⟨[.pointer (some ⟨mb,0,none⟩),.pointer (some ⟨mo,0,none⟩)]⟩∧Mem w0 w' No [(mb,.row 3 [.int .i64 k]),(mo,.row 22 [.slice r n cr])]:=by
 refine aH Tryz.func26 fun κ _ Je Jc hm=>?_
 refine au 2 ?_
 refine bT hm fun m1 w hm=>?_
 refine bT hm fun m2 w hm=>?_
 refine au 11 ?_
 exact ⟨_,_,rfl,hm⟩
def okI(y:aa):Prop:=Pl.aA y.k∧Pl.aA y.to∧Pl.aA y.fr∧Pl.aA y.ln∧y.d.bs.length≤1000000
theorem Pp{w0 w:World}{X:Bs}{L B:Tf}{y:aa}(hm:Mem w0 w X L)(h:bh B 5 y.d)(hs:∀ e,e∈B→e∈L)(hi:okI y):Q1 w y:=⟨hi.1,hi.2.1,hi.2.2.1,hi.2.2.2.1,h.jO hm hs⟩
end Go.Proofs.YtaehgpeenaomcaaGreat
namespace Go.Cx
open Go Go.Cx Go.Proofs.YtaehgpeenaomcaaGreat
theorem Mem.E9{w0 w:World}{A Z:Tf}{p:Tg}{cs:Ti}(hm:Mem w0 w No (A++Z))(hR:Rd w0 p cs):cs≠[]→∀ ad,p=some ad→¬ Mn (ak Z) ad.block:=hm.MM hR
end Go.Cx
namespace Go.Proofs.YtaehgpeenaomcaaGreat
open Go Go.Cx
theorem Pq{w0 w:World}{X:Bs}{q:Nat×ag}{B1 B2:Tf}(h:Mem w0 w X (q::(B1++B2))):Mem w0 w X (q::B2):=h.drop (.cons_cons _ (List.sublist_append_right _ _))
theorem Pr{g:Th}{p fr:Nat}:Pl.E8 g p fr=if fr<p then [⟨2,fr,0,0,(g.drop fr).take (p-fr)⟩] else []:=rfl
theorem yR(mf ml mn:Nat)(g:Nat)(b:ag)(p:Tg)(n cap:Nat)(cs:List aa)(fr po:Nat)(B:Tf)(s:Tg)(c2:Nat)(gg:Th)(w0:World)(hO:Jr w0 ((g,b)::(mf,.row 3 [.int .i64 (fr:Int)])::(ml,.row 24 [.slice p n cap])::(mn,.row 22 [.slice s gg.length c2])::B))(ha:Acc 60 5 p n cap (cs.flatMap JM) g b)(hH:∀ y∈cs,bh B 5 y.d)(Ps:∀ y∈cs,okI y)(hg:Rd w0 s (gg.flatMap Jk))(hgZ:gg.flatMap Jk≠[]→∀ ad,s=some ad→¬ Mn (ak ((g,b)::(mf,.row 3 [.int .i64 (fr:Int)])::(ml,.row 24 [.slice p n cap])::(mn,.row 22 [.slice s gg.length c2])::B)) ad.block)(P1:gg.length≤c2∧gg.length≤1000000)(X':c2≠0→∀ ad,s=some ad→ad.spot=none)(dV:fr≤gg.length∧po≤gg.length)(hn:n≤1000000):C Tryz.prog 27 [.int .i64 (po:Int),.pointer (some ⟨mf,0,none⟩),.pointer (some ⟨ml,0,none⟩),.pointer (some ⟨mn,0,none⟩)] w0 fun v w'=>v=.tuple ⟨[]⟩∧∃ (p':Tg) (n' aV g':Nat) (b':ag) (ds:List aa) (B':Tf),Acc 60 5 p' n' aV (ds.flatMap JM) g' b'∧ds.map aa.cm=cs.map aa.cm++Pl.E8 gg po fr∧(∀ y∈ds,bh B' 5 y.d)∧(∀ y∈ds,okI y)∧n'≤n+1∧(∀ e,e∈B→e∈B')∧Mem w0 w' (Mn (ak ((g,b)::(mf,.row 3 [.int .i64 (fr:Int)])::(ml,.row 24 [.slice p n cap])::(mn,.row 22 [.slice s gg.length c2])::B))) ((g',b')::(mf,.row 3 [.int .i64 (fr:Int)])::(ml,.row 24 [.slice p' n' aV])::(mn,.row 22 [.slice s gg.length c2])::B'):=by
 have aG:=ha
 have Eu:=hO.start.to
 refine Vk Tryz.func27 rfl rfl rfl fun κ _ Je Jc=>?_
 have hm:=hO.start
 refine au 7 ?_
 refine cd (fun ai=>?_) fun ai=>?_
 ·
  simp only [dT] at ai
  have Nq:Pl.E8 gg po fr=[(⟨2,fr,0,0,(gg.drop fr).take (po-fr)⟩:Pl.Cm)]:=LI Ta
  have xX:=ha.QB Jf Tb
  refine dw [0,3,6,9,12,15,19,22,25,2,28,31] hm fun w hw ar hh hm=>?_
  refine au 5 ?_
  refine Ja rfl rfl (cy (JE (ln:=fr) (hn:=po) rfl sl22.h ⟨_,rfl⟩ ⟨_,rfl⟩ Ta Ta (fun h=>X' Ta)) (show _=Value.slice (bP s c2 fr 1) ((gg.drop fr).take (po-fr)).length (c2-fr) by rw [Lg,Lm]; congr 1; omega))<|Jb (l:=[_]) rfl rfl sl88.h z22.h rfl rfl rfl rfl rfl rfl rfl hm hh fun m6 w Kv hm hh=>ca rfl rfl rfl (Zg (fr:Int) _ 1 [⟨bP s c2 fr 1,c2-fr,(gg.drop fr).take (po-fr)⟩] _ (Rd.JL (hm.get (k:=0) rfl)) (by intro s9 eT; rw [Lf.1 eT]; exact (hg.Yu hm.to hgZ).sub P1.1) Tc (by simp only [Lk,LY,Lq,Lg,Lm]; omega)) fun v w hR=>?_
  obtain ⟨Dh,n_c,fj,PN,PO,rfl,fH,ae⟩:=hR
  refine ⟨hh.ext ae.to,?_⟩
  replace hh:=hh.ext ae.to
  replace hm:=hm.Jt ae
  obtain rfl:=fH.J0
  simp only [Lk,LY,Lq] at fH
  refine Jb (l:=[_,_,_,_,_]) rfl rfl sl24.h z60.h rfl rfl rfl rfl rfl rfl rfl hm hh fun m8 w WS hm hh=>au 1 ?_
  refine Jy rfl rfl rfl rfl rfl rfl sl24.h sl24.h z60.h rfl rfl (Rd.JL (hm.get (k:=0) rfl)) rfl aG hm 3 rfl Ta Ta fun dL aO eX eY w aG hm=>st hm 5 fun w hm=>?_
  refine au 1 ?_
  refine eK (fin Jc rfl .nil .nil ?_)
  refine ⟨rfl,dL,_,aO,eX,eY,cs++[jx (⟨2,fr,0,0,(gg.drop fr).take (po-fr)⟩:Pl.Cm) Dh fj],(PN,PO)::B,aG.to (by rw [Lh,List.flatMap_singleton]; rfl),by rw [Nq,Lx]; rfl,fun y hy=>?_,fun y hy=>?_,Ta,fun e he=>.tail _ he,(hm.Jp [3,4,5,6,1] 7 rfl)⟩
  · exact (Ls.1 hy).elim (fun h=>(hH y h).mono fun e he=>.tail _ he) (fun h=>by rw [Lf.1 h]; exact fH.held (Lo))
  · exact (Ls.1 hy).elim (Ps y) (fun h=>by rw [Lf.1 h]; refine ⟨?_,?_,?_,?_,?_⟩ <;> simp only [jx,Pl.aA,Lg,Lm] <;> omega)
 ·
  simp only [dF] at ai
  have Nq:Pl.E8 gg po fr=[]:=LH Ta
  refine au 1 ?_
  refine eK (fin Jc rfl .nil .nil ?_)
  exact ⟨rfl,p,n,cap,g,b,cs,B,ha,by rw [Nq,Lq],hH,Ps,Ta,fun _ h=>h,(hm.Jp [0,1,2,3] 4 rfl)⟩
theorem jj(ra:Addr)(cr:Nat)(f:Th)(s:Tg)(c2:Nat)(gg:Th)(k:Int)(w0:World)(hf:Rd w0 (some ra) (f.flatMap Jk))(bY:f.length≤1000000∧f.length≤cr)(Rh:Rd w0 s (gg.flatMap Jk))(P1:gg.length≤c2∧gg.length≤100000)(X':c2≠0→∀ ad,s=some ad→ad.spot=none)(hk:Pl.aA k)(Bw:Gz w0):C Tryz.prog 14 [.slice (some ra) f.length cr,.slice s gg.length c2,.int .i64 k] w0 fun v w'=>∃ (ys:List aa) (p:Tg) (n cap g:Nat) (b:ag) (B:Tf),v=.agg ⟨aZ f.length gg.length (Pl.hh (Pl.bu f) (Pl.bu gg)) p n cap⟩∧Acc 60 5 p n cap (ys.flatMap JM) g b∧ys.map aa.cm=(Pl.jx f gg k gg.length 0 0)∧(∀ y∈ys,bh B 5 y.d)∧Mem w0 w' No ((g,b)::B):=by
 refine aH Tryz.func14 fun κ _ Je Jc hm=>?_
 refine au 2 ?_
 refine bT hm fun mn w hm=>?_
 refine aT hm fun m6 w hm=>?_
 refine au 6 ?_
 refine cT rfl rfl rfl (A8 k _ _ cr _) fun v w hR=>?_
 obtain ⟨mb,mo,rfl,ae⟩:=hR
 replace hm:=hm.Jt ae
 refine au 5 ?_
 refine aT hm fun ml w hm=>?_
 replace hm:=hm.JP
 have aG:=Acc.nil 60 5 none 0
 refine au 4 ?_
 refine aT hm fun mf w hm=>?_
 refine st hm 0 fun w hm=>?_
 refine au 15 ?_
 refine Jg (ι:=Nat×Nat×Nat×Ow×List aa×List (Nat×ag)) rfl (ks:=[0,4,6,7,8,9,10]) Tn (fun x=>[(11,.int .i64 (x.1:Int))]) (fun x w=>Mem w0 w No ((mb,.row 3 [.int .i64 k])::(mo,.row 22 [.slice (some ra) f.length cr])::(m6,.row 26 (aZ 0 0 (fun _=>0) none 0 0))::(x.2.2.2.1.g,x.2.2.2.1.b)::(mf,.row 3 [.int .i64 (x.2.1:Int)])::(ml,.row 24 [.slice x.2.2.2.1.p x.2.2.2.1.n x.2.2.2.1.cap])::(mn,.row 22 [.slice s gg.length c2])::x.2.2.2.2.2)∧Acc 60 5 x.2.2.2.1.p x.2.2.2.1.n x.2.2.2.1.cap (x.2.2.2.2.1.flatMap JM) x.2.2.2.1.g x.2.2.2.1.b∧(∀ y∈x.2.2.2.2.1,bh x.2.2.2.2.2 5 y.d)∧(∀ y∈x.2.2.2.2.1,okI y)∧(0,.gap)∈x.2.2.2.2.2∧x.2.2.2.2.1.map aa.cm++Pl.jx f gg k x.2.2.1 x.1 x.2.1=(Pl.jx f gg k gg.length 0 0)∧x.2.1≤x.1∧x.1≤gg.length∧gg.length≤x.1+x.2.2.1∧x.2.2.2.1.n+2*x.2.2.1≤2*gg.length) (fun x=>x.2.2.1) (0,0,gg.length,⟨none,0,0,0,.gap⟩,[],[(0,.gap)]) (⟨(hm.JP.pick [4,5,6,2,1,3,7,0] rfl),.nil _ _ _ _,Tc,Tc,Tc,rfl,LP _,LL _,Tc,Tc⟩) Tm (fun x w hM=>?_)
 obtain ⟨po,fr,fuel,⟨dL,Po,aO,eX,eY⟩,cs,B⟩:=x
 obtain ⟨hm,aG,hH,Ps,IA,hT,zW,M0,hb3,hb4⟩:=hM
 simp only at hm aG hH Ps IA hT zW M0 hb3 hb4 ⊢
 refine au 9 ?_
 refine cd (fun ai=>?_) fun ai=>?_
 ·
  simp only [dT] at ai
  obtain ⟨fu,hfu⟩:∃ y,fuel=y+1:=⟨fuel-1,Ta⟩
  have hmk:∀ p fr,Pl.jx f gg k (fu+1) p fr=if p<gg.length then (if (Pl.fx f k (gg.drop p)).1<0 then Pl.jx f gg k fu (p+1) fr else Pl.E8 gg p fr++(⟨1,p,(Pl.fx f k (gg.drop p)).1,(Pl.fx f k (gg.drop p)).2,[]⟩::Pl.jx f gg k fu (p+(Pl.fx f k (gg.drop p)).2.toNat) (p+(Pl.fx f k (gg.drop p)).2.toNat))) else Pl.E8 gg p fr:=fun _ _=>rfl
  have eM:(gg.drop po).length=gg.length-po:=Lm
  have C0:=aG.QB Jf Tb
  refine au 8 ?_
  refine Ja rfl rfl (cy (JE (ln:=po) (hn:=gg.length) rfl sl22.h ⟨_,rfl⟩ rfl Ta Ta (fun h=>X' Ta)) (show _=Value.slice (bP s c2 po 1) (gg.drop po).length (c2-po) by rw [eM]))<|Qf rfl rfl rfl rfl go50 (Iz mb mo k ra cr f _ (hm.get (k:=0) rfl) (hm.get (k:=1) rfl) (hf.Jj hm.to) bY (bP s c2 po 1) (c2-po) (gg.drop po) ((Rh.Jj hm.to).mz P1.1) Ta hk (Bw.to hm.to)) fun v w hR=>?_
  obtain ⟨rfl,hE⟩:=hR
  refine ⟨trivial,?_⟩
  replace hm:=hm.ext hE
  refine au 14 ?_
  refine cd (fun ao=>?_) fun ao=>?_
  ·
   simp only [dT] at ao
   refine au 10 ?_
   exact next (po+1,fr,fu,⟨dL,Po,aO,eX,eY⟩,cs,B) Td ⟨(hm.Jp [0,1,2,3,4,5,6] 7 rfl),aG,hH,Ps,IA,by rw [← hT,hfu,hmk,LI Ta,LI ao],Td,Td,Td,Td⟩ ⟨nx po,Tm⟩
  ·
   simp only [dF] at ao
   obtain ⟨NM,NN,hq3,hq4⟩:=yQ (f:=f) (k:=k) (bs:=gg.drop po) Ta
   have hq5:=xf ((gg.drop po).drop k.toNat) (f.drop ((Lib.index f ((gg.drop po).take k.toNat)).toNat+k.toNat))
   rw [Lm] at hq5
   have hq6:=Lib.index_le f ((gg.drop po).take k.toNat)
   refine au 6 ?_
   refine Qf rfl rfl rfl rfl go27 (yR mf ml mn eX eY dL Po aO cs fr po B s c2 gg _ (Jr.right (A:=[_,_,_]) hm.Jz) aG hH Ps (Rh.Jj hm.to) (Mem.E9 (A:=[_,_,_]) hm Rh) ⟨P1.1,Ta⟩ X' Ta Ta) fun v w hR=>?_
   obtain ⟨rfl,dL,Po,aO,eX,eY,ds,B1,aG,Uq,hH1,IB,sK,kq,ae⟩:=hR
   refine ⟨trivial,?_⟩
   replace hm:=Mem.JQ (A:=[_,_,_]) hm ae
   refine au 3 ?_
   refine dw [0,3,6,9,13,16,2,19,22] hm fun w hw ar hh hm=>?_
   refine au 4 ?_
   refine cB rfl rfl rfl (wI (po:Int) (Pl.fx f k (gg.drop po)).1 (Pl.fx f k (gg.drop po)).2 _) hm hh fun w hm hh=>Jb (l:=[_,_,_,_,_]) rfl rfl sl24.h z60.h rfl rfl rfl rfl rfl rfl rfl hm hh fun m11 w jce hm hh=>au 1 ?_
   refine Jy rfl rfl rfl rfl rfl rfl sl24.h sl24.h z60.h rfl rfl (Rd.JL (hm.get (k:=0) rfl)) rfl aG hm 4 rfl Ta Ta fun dL aO eX eY w aG hm=>st hm 6 fun w hm=>?_
   refine au 12 ?_
   refine st hm 5 fun w hm=>?_
   refine au 2 ?_
   refine next (po+(Pl.fx f k (gg.drop po)).2.toNat,po+(Pl.fx f k (gg.drop po)).2.toNat,fu,⟨dL,_,aO,eX,eY⟩,ds++[Go.Cx.jx (⟨1,po,(Pl.fx f k (gg.drop po)).1,(Pl.fx f k (gg.drop po)).2,[]⟩:Pl.Cm) none 0],B1) Td ⟨?_,aG.to (by rw [Lh,List.flatMap_singleton]; rfl),fun y hy=>?_,fun y hy=>?_,kq _ IA,by rw [Lx,Uq,← hT,hfu,hmk,LI Ta,LH ao,Lp,Lp]; rfl,LP _,Td,Td,Td⟩ ⟨LM (fun z=>some (Value.int .i64 z)) (show (po:Int)+(Pl.fx f k (gg.drop po)).2=((po+(Pl.fx f k (gg.drop po)).2.toNat:Nat):Int) by omega),Tm⟩
   · have e9:((po+(Pl.fx f k (gg.drop po)).2.toNat:Nat):Int)=(po:Int)+(Pl.fx f k (gg.drop po)).2:=by omega
     simp only; rw [e9]; exact (hm.Jp [1,2,3,4,5,6,7] 8 rfl)
   · exact (Ls.1 hy).elim (hH1 y) (fun h=>by rw [Lf.1 h]; exact ⟨0,.gap,kq _ IA,.nil _ _ _ _⟩)
   · exact (Ls.1 hy).elim (IB y) (fun h=>by rw [Lf.1 h]; refine ⟨?_,?_,?_,?_,?_⟩ <;> simp only [Go.Cx.jx,Pl.aA,LA] <;> omega)
 ·
  simp only [dF] at ai
  have hpe:po=gg.length:=by omega
  have yi:Pl.jx f gg k fuel po fr=Pl.E8 gg po fr:=by cases fuel with | zero=>rfl | succ n9=>exact LH Ta
  rw [yi] at hT
  refine au 9 ?_
  refine Qf rfl rfl rfl rfl go27 (yR mf ml mn eX eY dL Po aO cs fr po B s c2 gg _ (Jr.right (A:=[_,_,_]) hm.Jz) aG hH Ps (Rh.Jj hm.to) (Mem.E9 (A:=[_,_,_]) hm Rh) ⟨P1.1,Ta⟩ X' Ta Ta) fun v w hR=>?_
  obtain ⟨rfl,dL,Po,aO,eX,eY,ds,B1,aG,Uq,hH1,IB,sK,kq,ae⟩:=hR
  refine ⟨trivial,?_⟩
  replace hm:=Mem.JQ (A:=[_,_,_]) hm ae
  obtain rfl:=aG.QB Jf Tb
  refine au 7 ?_
  have cM:=db (some ra) cr f s c2 gg dL aO ds _ (hf.Jj hm.to) bY.1 (Rh.Jj hm.to) Ta (aG.rd hm 3 rfl) (fun c hc=>Pp hm (hH1 c hc) (fun e he=>Ly [_,_,_,_,_,_,_] he) (IB c hc)) Ta (fun c hc=>by have:=(IB c hc).2.2.2.2; omega)
  refine cT rfl rfl rfl cM fun v w hR=>?_
  obtain ⟨fk,aK,dE,aj,aI,aF,ry,rfl,ah,cY,dy,ae⟩:=hR
  replace hm:=hm.VZ ae
  obtain rfl:=ah.QB Jf Tb
  refine st hm 3 fun w hm=>?_
  replace hm:=Xu hm rfl
  refine au 3 ?_
  refine dD (fin Je rfl (.cell rfl (Ju (vs:=aZ f.length gg.length (Pl.hh (Pl.bu f) (Pl.bu gg)) _ _ _) ag26.h (hm.get (k:=3) rfl) rfl) .nil) .one ?_)
  exact ⟨fk,_,_,_,_,_,ry,rfl,ah,by rw [cY,Uq]; exact hT,dy,Pq (hm.Jp [0] 8 rfl)⟩
theorem run_mk:Pl.jx ([97,98,99,100,101,102]:Th) ([100,101,102,120,97,98,99]:Th) 3 7 0 0=([⟨1,0,3,3,[]⟩,⟨2,3,0,0,[120]⟩,⟨1,4,0,3,[]⟩]:List Pl.Cm):=by decide +kernel
theorem yS:Pl.bQ ([97,98,99,100,101,102]:Th) ([⟨1,0,3,3,[]⟩,⟨2,3,0,0,[120]⟩,⟨1,4,0,3,[]⟩]:List Pl.Cm) 7=([100,101,102,120,97,98,99]:Th):=by decide +kernel
theorem Fa:Pl.VD 6 7 ([⟨1,0,3,3,[]⟩,⟨2,3,0,0,[120]⟩,⟨1,4,0,3,[]⟩]:List Pl.Cm) where
 lens:=by decide
 one:=by decide
 dis:=fun i j ci cj vA hi hj=>by
  have h1:i<3:=(Le.1 hi).1
  have:i=0∨i=1∨i=2:=by omega
  have:j=0∨j=1∨j=2:=by omega
  rcases ‹i=0∨_› with rfl | rfl | rfl <;> rcases ‹j=0∨_› with rfl | rfl | rfl <;> first | omega | (simp at hi hj; subst hi hj; unfold Pl.dj; decide)
 cov:=fun x h0 h1=>by
  have:x=0∨x=1∨x=2∨x=3∨x=4∨x=5∨x=6:=by omega
  rcases this with rfl | rfl | rfl | rfl | rfl | rfl | rfl <;> decide
theorem xg(w0:World)(Bw:Gz w0)(hRW:∀ cs:List aa,cs.map aa.cm=([⟨1,0,3,3,[]⟩,⟨2,3,0,0,[120]⟩,⟨1,4,0,3,[]⟩]:List Pl.Cm)→∀ ds,Pl.ET ([97,98,99,100,101,102]:Th) cs ds→Pl.Ix 64 2 6 7 ([97,98,99,100,101,102]:Th) [(4,1)] 2 ds):C Tryz.prog 7 [] w0 fun v w'=>v=.bool true∧Ext No w0 w':=by
 refine aH Tryz.func7 fun κ _ Je Jc hm=>?_
 refine Qb rfl<|JT (.pure 0 .done) Te<|Ja rfl rfl (J4 rfl)<|Qc<|QV<|Qb rfl<|JT (.act 0 (.act 1 (.pure 2 .done))) Te<|Jb (l:=[_,_,_,_,_,_]) rfl rfl sl22.h z5.h rfl rfl rfl rfl rfl rfl rfl hm trivial fun m1 w c5 hm hh=>xE rfl rfl rfl cb22 hm 0 rfl fun w hm=>Ja rfl rfl (J4 rfl)<|Qc<|QV<|Qb rfl<|JT (.pure 0 (.pure 1 (.act 2 (.act 3 (.act 4 (.pure 5 (.act 6 (.act 7 (.pure 8 (.pure 9 (.pure 10 (.pure 11 (.act 12 (.act 13 (.pure 14 (.act 15 (.act 16 .done))))))))))))))))) Te<|Ja rfl rfl (Jx rfl)<|Ja rfl rfl (Jx rfl)<|Jb (l:=[_,_,_,_,_,_,_]) rfl rfl sl22.h z5.h rfl rfl rfl rfl rfl rfl rfl hm trivial fun m2 w bo hm hh=>xE rfl rfl rfl cb22 hm 0 rfl fun w hm=>cT rfl rfl rfl (jj ⟨m1,0,none⟩ 6 ([97,98,99,100,101,102]:Th) (some ⟨m2,0,none⟩) 7 ([100,101,102,120,97,98,99]:Th) 3 _ (Rd.o9 (hm.get (k:=1) rfl)) Tb (Rd.o9 (hm.get (k:=0) rfl)) Tb (fun _ ad e=>by cases e; rfl) Tb (Bw.to hm.to)) fun v w hR=>?_
 obtain ⟨ys,Ri,ZJ,p0,ZK,ZL,ZM,rfl,dN,ew,vf,ae⟩:=hR
 obtain rfl:=dN.QB Jf Tb
 replace hm:=hm.VZ ae
 replace ew:=ew.trans run_mk
 have hv:Pl.VD 6 7 (ys.map aa.cm):=by rw [ew]; exact Fa
 have fz:ys.length=3:=by have:=LM List.length ew; rw [Lj] at this; exact this
 refine au 1 ?_
 refine Jb (l:=[_,_]) rfl rfl sl64.h z57.h rfl rfl rfl rfl rfl rfl rfl hm trivial fun m14 w jcf hm hh=>?_
 have cM:=pZ (some ⟨m1,0,none⟩) 6 ([97,98,99,100,101,102]:Th) Ri p0 ys 6 7 (Pl.hh (Pl.bu ([97,98,99,100,101,102]:Th)) (Pl.bu ([100,101,102,120,97,98,99]:Th))) 64 2 (some ⟨m14,0,none⟩) 1 [(4,1)] 2 _ (by rw [ew,show (7:Int).toNat=7 from rfl,yS]) (Rd.o9 (hm.get (k:=3) rfl)) Tb (fun _ ad e=>by cases e; rfl) (dN.rd hm 1 rfl) Ta (fun c hc=>Ya hm (vf c hc) (fun e he=>Ly [_,_,_,_] he) (hv.one c.cm (Ln.2 ⟨c,hc,rfl⟩))) (V5 hv Tb) hv rfl Tb Tb Tb (Rd.JL (hm.get (k:=0) rfl)) Tb Tb (hRW ys ew)
 refine cT rfl rfl rfl cM fun v w hR=>?_
 obtain ⟨jc,bK,fY,fX,pa,ca,pk,rfl,-,-,aS,ae⟩:=hR
 replace hm:=hm.Jt ae
 rw [ew,show (7:Int).toNat=7 from rfl,yS] at aS
 refine au 4 ?_
 refine aT hm fun m1 w hm=>?_
 refine aT hm fun m2 w hm=>?_
 refine au 1 ?_
 refine st hm 1 fun w hm=>?_
 refine st hm 0 fun w hm=>?_
 refine au 6 ?_
 refine Ja rfl rfl (JA (c:=true) (sD rfl rfl iii46) Tb)<|au 2 ?_
 refine Ja rfl rfl (BY rfl bt22_9 ((aS.rd hm 2 rfl).nt) aS.J0)<|Ja rfl rfl (JA (c:=true) (BH rfl rfl) (by show ((vL ([100,101,102,120,97,98,99]:Th)).toList==(vL ([100,101,102,120,97,98,99]:Th)).toList)=true; rw [YX]; decide))<|au 5 ?_
 refine Ja rfl rfl (JA (c:=true) (V3 rfl rfl) Tb)<|au 6 ?_
 exact ⟨rfl,hm.to⟩
theorem Fb(oo nn:Int)(H:Nat→UInt8)(q:Tg)(cq:Nat)(cs:List aa)(r:Tg)(cr:Nat)(f:Th)(w0:World)(hq:Rd w0 q (cs.flatMap JM))(eM:cs.length≤4611686018427387903)(aq:∀ c∈cs,fE w0 c)(hf:Rd w0 r (f.flatMap Jk))(ho:oo=f.length)(hv:Pl.VD oo nn (cs.map aa.cm))(hn:nn≤3000):C Tryz.prog 10 [.slice r f.length cr,.agg ⟨aZ oo nn H q cs.length cq⟩] w0 fun v w'=>∃ (p:Tg) (n9 cap g:Nat) (b:ag),v=.slice p n9 cap∧Acc 5 1 p n9 cap ((Pl.bQ f (cs.map aa.cm) nn.toNat).flatMap Jk) g b∧Mem w0 w' No [(g,b)]:=by
 have pB:=hv.lens
 have hr:∀ c∈cs,Pl.aA (c.cm.to+Pl.aw c.cm):=fun c hc=>by
  have:=Pl.Jl (Pl.Jw (hv.one c.cm (Ln.2 ⟨c,hc,rfl⟩))).1
  simp only [Pl.aA]; omega
 refine aH Tryz.func10 fun κ _ Je Jc hm=>?_
 refine au 2 ?_
 refine bT hm fun m1 w hm=>?_
 refine au 6 ?_
 replace hm:=hm.JP
 have az:=Acc.nil 5 1 none 0
 refine au 9 ?_
 refine Jg (ι:=Nat×Ow) rfl (ks:=[0,3,4]) Tn (fun x=>[(6,.int .i64 x.1),(5,.slice x.2.p x.2.n x.2.cap)]) (fun x w=>Mem w0 w No [(x.2.g,x.2.b),(m1,.row 26 (aZ oo nn H q cs.length cq))]∧Acc 5 1 x.2.p x.2.n x.2.cap ((Pl.bQ f (cs.map aa.cm) x.1).flatMap Jk) x.2.g x.2.b∧(x.1:Int)≤nn∧x.2.n=x.1) (fun x=>nn.toNat-x.1) (0,⟨none,0,0,0,.gap⟩) (⟨(hm.pick [0,1] rfl),az,pB.2.1,rfl⟩) Tm (fun x w hM=>?_)
 obtain ⟨hm,az,hk,Bt⟩:=hM
 refine au 9 ?_
 refine cd (fun ai=>?_) fun ai=>?_
 ·
  simp only [dT] at ai
  obtain ⟨j,c9,hfj,wN,hbj⟩:=Pl.gP (hv.cov x.1 Ta ai)
  obtain ⟨c,hi,rfl⟩:=tI wN
  obtain ⟨qb,qo,rfl⟩:=hq.bS Jf Tb hi
  have NT:=(Le.1 hi).1
  have fF:=hv.one c.cm (Ld wN)
  obtain ⟨b,hb⟩:=Pl.mM ho fF hbj
  have sb:=Pl.qR hfj wN hb
  obtain ⟨jcg,tX,yr⟩:=Pl.Jw fF
  have b6:=Pl.Jl jcg
  have hbb:=Pl.Qm.1 hbj
  have k1:c.cm.k=c.k:=rfl
  have k2:c.cm.to=c.to:=rfl
  have k3:c.cm.fr=c.fr:=rfl
  have k4:c.cm.ln=c.ln:=rfl
  have k5:c.cm.bs=c.d.bs:=rfl
  rw [k1,k2,k3,k4,k5] at b6
  rw [k1,k3,k4] at tX
  rw [k2] at hbb
  have IC:=(aq c (Ld hi)).2.2.2.2.rd
  refine au 5 ?_
  refine JS (.pure 0 (.pure 1 (.pure 2 (.pure 3 (.act2 4 (.pure 5 (.pure 6 (.act 7 (.cut (.act 8 .done))))) 7 (.act 4 (.pure 5 (.pure 6 (.cut (.act 8 .done)))))))))) No fP Te hm fun w hw ar hh=>?_
  have hm:=ar
  refine au 2 ?_
  refine Ja rfl rfl (Jm (s:=67) (vs:=aZ oo nn H _ cs.length cq) rfl ag26.h (ar.nd 1 rfl id) rfl)<|au 1 ?_
  refine QN ?_ ?_
  ·
   refine cB rfl rfl rfl (C.as (rm oo nn H _ cq cs x.1 _ (hq.Jj hm.to) eM hr) (LM (Value.int .i64) hfj)) hm hh fun w hm hh=>au 1 ?_
   refine Ja rfl rfl (JU rfl ag60.h (hq.Jj ar.to).nd Jf hi)<|al hm hh fun m2 w bo hm hh=>?_
   refine au 1 ?_
   refine st hm 0 fun w hm=>?_
   refine au 9 ?_
   refine cd (fun ao=>?_) fun ao=>?_
   ·
    simp only [dT] at ao
    have xh:f[(c.fr+x.1-c.to).toNat]?=some b:=by
     have:=hb
     unfold Pl.de at this
     rw [LI (by rw [k1]; exact ao)] at this
     exact this
    obtain ⟨rb,ro,rfl⟩:=hf.bS JG Tb xh
    have aX:=(Le.1 xh).1
    refine au 11 ?_
    refine Ja rfl rfl (J3 rfl sc5.h (hf.Jj hm.to).nt JG xh rfl)<|Jb (l:=[_]) rfl rfl sl22.h z5.h rfl rfl rfl rfl rfl rfl rfl hm trivial fun m3 w dX hm hh=>Jy rfl rfl rfl rfl rfl rfl sl22.h sl22.h z5.h rfl rfl (Rd.JL (hm.get (k:=0) rfl)) rfl az hm 2 rfl Ta Ta fun dJ aM cD dK w az hm=>au 9 ?_
    refine next (x.1+1,⟨dJ,_,aM,cD,dK⟩) Td ⟨(hm.pick [2,3] rfl),az.to ?_,Td,Td⟩ ⟨nx x.1,Tm⟩
    rw [Pl.gR,Lh,sb]; rfl
   ·
    simp only [dF] at ao
    have xh:c.d.bs[((x.1:Int)-c.to).toNat]?=some b:=by
     have:=hb
     unfold Pl.de at this
     rw [LH (by rw [k1]; exact ao)] at this
     exact this
    obtain ⟨rb,ro,Nv⟩:=IC.bS JG Tb xh
    have KB:=Nv▸IC
    have aX:=(Le.1 xh).1
    refine au 8 ?_
    refine Ja rfl rfl (Qy rfl rfl sl22.h Nv Ta Ta)<|Ja rfl rfl (J3 rfl sc5.h (KB.Jj hm.to).nt JG xh rfl)<|Jb (l:=[_]) rfl rfl sl22.h z5.h rfl rfl rfl rfl rfl rfl rfl hm trivial fun m3 w dX hm hh=>Jy rfl rfl rfl rfl rfl rfl sl22.h sl22.h z5.h rfl rfl (Rd.JL (hm.get (k:=0) rfl)) rfl az hm 2 rfl Ta Ta fun dJ aM cD dK w az hm=>au 9 ?_
    refine next (x.1+1,⟨dJ,_,aM,cD,dK⟩) Td ⟨(hm.pick [2,3] rfl),az.to ?_,Td,Td⟩ ⟨nx x.1,Tm⟩
    rw [Pl.gR,Lh,sb]; rfl
  ·
   refine al hm hh fun m2 w bo hm hh=>?_
   refine cB rfl rfl rfl (C.as (rm oo nn H _ cq cs x.1 _ (hq.Jj hm.to) eM hr) (LM (Value.int .i64) hfj)) hm hh fun w hm hh=>au 1 ?_
   refine Ja rfl rfl (JU rfl ag60.h (hq.Jj ar.to).nd Jf hi)<|au 1 ?_
   refine st hm 0 fun w hm=>?_
   refine au 9 ?_
   refine cd (fun ao=>?_) fun ao=>?_
   ·
    simp only [dT] at ao
    have xh:f[(c.fr+x.1-c.to).toNat]?=some b:=by
     have:=hb
     unfold Pl.de at this
     rw [LI (by rw [k1]; exact ao)] at this
     exact this
    obtain ⟨rb,ro,rfl⟩:=hf.bS JG Tb xh
    have aX:=(Le.1 xh).1
    refine au 11 ?_
    refine Ja rfl rfl (J3 rfl sc5.h (hf.Jj hm.to).nt JG xh rfl)<|Jb (l:=[_]) rfl rfl sl22.h z5.h rfl rfl rfl rfl rfl rfl rfl hm trivial fun m3 w dX hm hh=>Jy rfl rfl rfl rfl rfl rfl sl22.h sl22.h z5.h rfl rfl (Rd.JL (hm.get (k:=0) rfl)) rfl az hm 2 rfl Ta Ta fun dJ aM cD dK w az hm=>au 9 ?_
    refine next (x.1+1,⟨dJ,_,aM,cD,dK⟩) Td ⟨(hm.pick [2,3] rfl),az.to ?_,Td,Td⟩ ⟨nx x.1,Tm⟩
    rw [Pl.gR,Lh,sb]; rfl
   ·
    simp only [dF] at ao
    have xh:c.d.bs[((x.1:Int)-c.to).toNat]?=some b:=by
     have:=hb
     unfold Pl.de at this
     rw [LH (by rw [k1]; exact ao)] at this
     exact this
    obtain ⟨rb,ro,Nv⟩:=IC.bS JG Tb xh
    have KB:=Nv▸IC
    have aX:=(Le.1 xh).1
    refine au 8 ?_
    refine Ja rfl rfl (Qy rfl rfl sl22.h Nv Ta Ta)<|Ja rfl rfl (J3 rfl sc5.h (KB.Jj hm.to).nt JG xh rfl)<|Jb (l:=[_]) rfl rfl sl22.h z5.h rfl rfl rfl rfl rfl rfl rfl hm trivial fun m3 w dX hm hh=>Jy rfl rfl rfl rfl rfl rfl sl22.h sl22.h z5.h rfl rfl (Rd.JL (hm.get (k:=0) rfl)) rfl az hm 2 rfl Ta Ta fun dJ aM cD dK w az hm=>au 9 ?_
    refine next (x.1+1,⟨dJ,_,aM,cD,dK⟩) Td ⟨(hm.pick [2,3] rfl),az.to ?_,Td,Td⟩ ⟨nx x.1,Tm⟩
    rw [Pl.gR,Lh,sb]; rfl
 ·
  simp only [dF] at ai
  have b8:x.1=nn.toNat:=by omega
  rw [b8] at az
  refine au 13 ?_
  exact ⟨_,_,_,_,_,rfl,az,(hm.pick [0] rfl)⟩
structure DI(sz cnt:Nat)(c8:Int)(D:Pl.Dv):Prop where
 ok:Pl.okDv D
 dn:D.dn=false
 wr:D.wr<0
 ca:D.ca=[]
 hsz:D.sz=sz
 hcnt:D.cnt=cnt
 sW:0≤D.sW∧D.sW+c8≤4611686018427387903
theorem DI.mono{sz cnt:Nat}{b c:Int}{D:Pl.Dv}(h:DI sz cnt b D)(hc:c≤b):DI sz cnt c D:={ h with sW:=⟨h.sW.1,by have:=h.sW.2; omega⟩ }
theorem DI.cont{sz cnt:Nat}{b:Int}{D:Pl.Dv}(h:DI sz cnt b D):Pl.contents D=D.dk:=by unfold Pl.contents; rw [h.ca]; rfl
theorem Fc{sz cnt:Nat}{c8:Int}{D:Pl.Dv}{a:Nat}{bs:Th}(h:DI sz cnt c8 D)(bM:Pl.eF D (a:Int) (bs.length:Int)=true)(hb:(cnt:Int)≤c8) :
 (Pl.cg a bs (Pl.sN D.sz a bs.length) (Pl.sF D.sz a bs.length) D).1=0∧Pl.QS (Pl.cg a bs (Pl.sN D.sz a bs.length) (Pl.sF D.sz a bs.length) D).2=0∧DI sz cnt (c8-cnt) (Pl.fe (Pl.cg a bs (Pl.sN D.sz a bs.length) (Pl.sF D.sz a bs.length) D).2) ∧
 ∀ j:Nat,(Pl.fe (Pl.cg a bs (Pl.sN D.sz a bs.length) (Pl.sF D.sz a bs.length) D).2).dk[j]?=if a≤j∧j<a+bs.length then bs[j-a]? else D.dk[j]?:=by
 have ko:D.cnt≤D.cnt*D.sz:=Lu _ h.ok.sz
 have fy:=h.ok.max
 have hc:=h.hcnt
 have C0:=h.ca
 have hsW:=h.sW
 have ai:D.ca.length=0:=by rw [C0]; rfl
 have u:=Pl.CI h.ok h.dn h.wr bM Ta hsW.1 Ta
 have e:Pl.Ys D (a:Int) bs=Pl.cg a bs (Pl.sN D.sz a bs.length) (Pl.sF D.sz a bs.length) D:=by
  unfold Pl.Ys
  rw [LH (by rw [bM]; decide),LD]
 rw [e] at u
 have ho:=Pl.JJ.1 bM
 have xX:=Pl.XZ (sz:=D.sz) (a:=a) (b:=bs.length) (cnt:=D.cnt) h.ok.sz Ta h.ok.cnt
 have v:=Pl.wA a bs (Pl.sN D.sz a bs.length) (Pl.sF D.sz a bs.length) D h.ok h.dn h.wr xX Ta hsW.1 Ta
 generalize Pl.cg a bs (Pl.sN D.sz a bs.length) (Pl.sF D.sz a bs.length) D=W at u v ⊢
 obtain ⟨u1,u2,u3,u4,u5,u6,u7,u8,u9⟩:=u
 have qk:Pl.fe W.2={ Pl.bm W.2 (fun _=>true) with sF:=Pl.inc W.2.sF }:=by unfold Pl.fe; rw [u2]; rfl
 have mS:(Pl.fe W.2).dk=Pl.contents W.2:=by rw [qk]; exact Pl.lV _ _ _ _
 refine ⟨u1,by unfold Pl.QS; rw [u2]; rfl,⟨Pl.s8 u7,by rw [qk]; exact u2,by rw [qk]; exact v.2.2.1,by rw [qk]; rfl,by rw [qk]; exact u5.trans h.hsz,by rw [qk]; exact u6.trans hc,?_⟩,fun j=>?_⟩
 · rw [qk]
   show 0≤W.2.sW∧W.2.sW+(c8-cnt)≤4611686018427387903
   rw [u4]
   omega
 · rw [mS,u9 j,h.cont]
theorem xi{sz cnt:Nat}{c8:Int}{D:Pl.Dv}{a:Nat}{bs:Th}(h:DI sz cnt c8 D)(bM:Pl.eF D (a:Int) (bs.length:Int)=true)(hb:(cnt:Int)≤c8) :
 (Pl.dB D a bs).1=0∧DI sz cnt (c8-cnt) (Pl.dB D a bs).2∧∀ j:Nat,(Pl.dB D a bs).2.dk[j]?=if a≤j∧j<a+bs.length then bs[j-a]? else D.dk[j]?:=by
 obtain ⟨h1,h2,h3,h4⟩:=Fc h bM hb
 unfold Pl.dB
 rw [LH (fun h=>h h1)]
 exact ⟨h2,h3,h4⟩
theorem kG{sz cnt f N:Nat}{c8 b:Int}{D:Pl.Dv}{S:Pl.Jn}{r:Pl.Rc}(h:DI sz cnt c8 D)(h2:f+2*N≤cnt)(hj:b+44≤(N:Int)*(sz:Int))(hr:Pl.bt r=true)(hl:(r.bs.length:Int)≤b)(hb:(cnt:Int)≤c8) :
 (Pl.aP D f N b S r).1=0∧(Pl.aP D f N b S r).2.2=⟨IntKind.u64.wrap (S.nx+1),true,r⟩∧DI sz cnt (c8-cnt) (Pl.aP D f N b S r).2.1∧∀ j:Nat,j<f*sz→(Pl.aP D f N b S r).2.1.dk[j]?=D.dk[j]?:=by
 have nk:=Pl.VC r
 have yo:((N*D.sz:Nat):Int)=(N:Int)*(D.sz:Int):=Int.natCast_mul N D.sz
 have hsz:=h.hsz
 have xX:=h.hcnt
 rw [hsz] at yo
 have bM:Pl.eF D ((Pl.aY D f N (Pl.Jo S):Nat):Int) ((Pl.aC r).length:Int)=true:=Pl.SA h.ok Ta (Pl.Xv S) (by rw [hsz]; omega)
 have e:Pl.aP D f N b S r=Pl.qO D f N S r:=LI ⟨hr,hl⟩
 obtain ⟨w1,w2,w3,w4⟩:=Fc h bM hb
 rw [e]
 unfold Pl.qO Pl.nN
 rw [LH (fun h=>h w1),LH (fun h=>h w2)]
 refine ⟨rfl,rfl,w3,fun j hjj=>?_⟩
 show (Pl.fe _).dk[j]?=_
 rw [w4 j,LH]
 have:f*sz≤Pl.aY D f N (Pl.Jo S):=by
  unfold Pl.aY
  rw [hsz]
  exact Lr _ (Nat.le_add_right _ _)
 omega
theorem Fe{l l' bs:Th}{a M:Nat}(h:∀ j:Nat,l'[j]?=if a≤j∧j<a+bs.length then bs[j-a]? else l[j]?)(ha:a+bs.length≤M)(hM:M≤l.length):l'.take M=Pl.put (l.take M) a bs:=by
 refine Kb fun j=>?_
 rw [Pl.XI (by rw [Lg]; omega),LF,LF,h j]
 by_cases h1:a≤j∧j<a+bs.length
 · rw [LI h1,LI h1,LI Ta]
 · rw [LH h1,LH h1]
theorem rP{l l':Th}{M:Nat}(h:∀ j:Nat,j<M→l'[j]?=l[j]?):l'.take M=l.take M:=by
 refine Kb fun j=>?_
 rw [LF,LF]
 split
 · rename_i h1; exact h j h1
 · rfl
theorem rQ{sz cnt:Nat}{c8:Int}{D:Pl.Dv}(h:DI sz cnt c8 D){a n:Int}{M:Nat}(ha:0≤a)(hn:0≤n)(hM:a+n≤M)(hM2:M≤cnt*sz):Pl.bw D a n=((D.dk.take M).drop a.toNat).take n.toNat:=by
 have fy:=h.ok.max
 rw [h.hsz,h.hcnt] at fy
 have bM:Pl.eF D a n=true:=Pl.JJ.2 (by rw [h.hsz,h.hcnt]; omega)
 unfold Pl.bw
 rw [LI (Pl.XB h.dn bM),h.cont,List.drop_take,List.take_take]
 congr 1
 omega
theorem Y2{s:Int}:∀ (cs:List Pl.Cm) (b:Nat),(Pl.steps s b cs).map (·.2)=Pl.Qd s cs
 | [],b=>rfl
 | c::r,b=>by
  unfold Pl.steps Pl.Qd
  rw [Lx,List.map_map,Y2 r (b+1),Lk]
  congr 1
  exact List.map_id' _
end Go.Proofs.YtaehgpeenaomcaaGreat
