/- Part 15 of the proof of TopBack: LwB LwC LwD LwE LwF LwG LwH. Conditions: the hypotheses of each theorem. -/
import Derived.Test.YtaehgpeenaomcaaGreatV13
import Derived.Lib.IndexMore
import Derived.Test.YtaehgpeenaomcaaGreatChecked
set_option maxRecDepth 10000
set_option maxHeartbeats 4000000
set_option linter.unusedVariables false
set_option linter.unusedSimpArgs false
namespace Go.Proofs.YtaehgpeenaomcaaGreat
open Go Go.Cx
structure dC(sz f N:Nat)(b k oo nn:Int)(fl:Th)(cs:List Pl.Cm):Prop where
 hN:NwOk b oo nn fl cs
 s1:1≤sz
 hM:max oo nn≤((f*sz:Nat):Int)
 hj:b+44≤(N:Int)*(sz:Int)
 sl:Pl.slot (sz:Int) b=(N:Int)
 cn:f+2*N≤1000000
def Fi(nn b:Int)(fl:Th)(cs:List Pl.Cm)(i:Nat):List UInt8:=((Pl.Qd b cs).take i).foldl Pl.ju (Pl.eS fl nn)
structure Good(sz f N:Nat)(b oo nn:Int)(fl:Th)(cs:List Pl.Cm)(c8:Int)(i:Nat)(A:Pl.Ap):Prop where
 di:DI sz (f+2*N) c8 A.D
 fi:A.D.dk.take (max oo nn).toNat=Fi nn b fl cs i
 nx:A.nx=(i:Int)
 sn:0≤A.S.nx∧A.S.nx≤18446744073709551615
 la:A.S.la.bs.length≤1000000
section
variable {sz f N:Nat}{b k oo nn:Int}{fl:Th}{cs:List Pl.Cm}
theorem dC.len(h:dC sz f N b k oo nn fl cs):Pl.JF b cs=((Pl.Qd b cs).length:Int):=by
 unfold Pl.JF
 rw [← Pl.oW 0 h.hN.fw,← Y2 cs 0,Lj]
theorem dC.at(h:dC sz f N b k oo nn fl cs){i:Nat}(hi:i<(Pl.Qd b cs).length):(Pl.Qd b cs)[i]?=some (Pl.JB b cs i)∧0≤(Pl.JB b cs i).to∧((Pl.JB b cs i).k=1→0≤(Pl.JB b cs i).fr∧0≤(Pl.JB b cs i).ln∧(Pl.JB b cs i).fr+(Pl.JB b cs i).ln≤oo∧(Pl.JB b cs i).to+(Pl.JB b cs i).ln≤nn∧(Pl.JB b cs i).ln≤b)∧((Pl.JB b cs i).k≠1→(Pl.JB b cs i).to+(Pl.JB b cs i).bs.length≤nn∧((Pl.JB b cs i).bs.length:Int)≤b):=by
 have h1:i<(Pl.steps b 0 cs).length:=by rw [← Y2 cs 0,Lj] at hi; exact hi
 obtain ⟨x,hx⟩:∃ x,(Pl.steps b 0 cs)[i]?=some x:=⟨_,La h1⟩
 have h2:Pl.JB b cs i=x.2:=by unfold Pl.JB; rw [hx]; rfl
 have h3:=h.hN.ck x (Ld hx)
 rw [h2]
 refine ⟨?_,h3⟩
 rw [← Y2 cs 0,Lt,hx]; rfl
theorem yT(h:dC sz f N b k oo nn fl cs){i:Nat}(hi:i<(Pl.Qd b cs).length):Fi nn b fl cs (i+1)=Pl.put (Fi nn b fl cs i) (Pl.JB b cs i).to.toNat (Pl.ei (Fi nn b fl cs i) (Pl.JB b cs i)):=by
 obtain ⟨h1,-⟩:=h.at hi
 unfold Fi
 rw [LC,h1,Option.toList,List.foldl_append,List.foldl_cons,List.foldl_nil]
 rfl
theorem xj(h:dC sz f N b k oo nn fl cs):(Fi nn b fl cs (Pl.Qd b cs).length).take nn.toNat=Pl.bQ fl cs nn.toNat:=by
 have bM:=h.hN.on
 obtain ⟨R,h1,h2,h3⟩:=Pl.tG h.hN.ol h.hN.vd h.hN.sf h.hN.bn.1 Ta
 unfold Pl.zx at h1
 split at h1
 · cases h1
   rw [← h3]
   unfold Fi
   rw [Lv]
 · cases h1
theorem iy(h:dC sz f N b k oo nn fl cs){i:Nat}(hi:i<(Pl.Qd b cs).length):((Pl.ei (Fi nn b fl cs i) (Pl.JB b cs i)).length:Int)≤b∧(Pl.JB b cs i).to+((Pl.ei (Fi nn b fl cs i) (Pl.JB b cs i)).length:Int)≤nn:=by
 obtain ⟨h1,h2,h3,h4⟩:=h.at hi
 unfold Pl.ei
 split
 · rename_i hk
   have:=h3 hk
   rw [Lg]
   omega
 · rename_i hk
   have:=h4 hk
   omega
variable {c8:Int}{i:Nat}{A:Pl.Ap}
theorem Good.on(hc:dC sz f N b k oo nn fl cs)(h:DI sz (f+2*N) c8 A.D){a n:Int}(ha:0≤a)(hn:0≤n)(hM:a+n≤max oo nn):Pl.eF A.D a n=true:=by
 have h1:=hc.hM
 have h2:f*sz≤(f+2*N)*sz:=Lr _ (Nat.le_add_right _ _)
 have h3:=h.ok.max
 have h4:=hc.hN.on
 rw [h.hsz,h.hcnt] at h3
 exact Pl.JJ.2 (by rw [h.hsz,h.hcnt]; omega)
theorem Good.ID(hc:dC sz f N b k oo nn fl cs)(h:DI sz (f+2*N) c8 A.D):(max oo nn).toNat≤f*sz∧(max oo nn).toNat≤A.D.dk.length∧(max oo nn).toNat≤(f+2*N)*sz:=by
 have h1:=hc.hM
 have h2:f*sz≤(f+2*N)*sz:=Lr _ (Nat.le_add_right _ _)
 rw [h.ok.len,h.hsz,h.hcnt]
 omega
theorem Good.lD(hc:dC sz f N b k oo nn fl cs)(h:Good sz f N b oo nn fl cs c8 i A)(hi:i<(Pl.Qd b cs).length):A.lD (Pl.JB b cs i)=Pl.ei (Fi nn b fl cs i) (Pl.JB b cs i):=by
 obtain ⟨h1,h2,h3,h4⟩:=hc.at hi
 have hm:=Good.ID hc h.di
 have bM:=hc.hN.on
 unfold Pl.Ap.lD Pl.ei
 split
 · rename_i hk
   have h5:=h3 hk
   rw [rQ h.di h5.1 h5.2.1 (M:=(max oo nn).toNat) Ta hm.2.2,h.fi]
 · rfl
theorem iJ(x:Int):0≤IntKind.u64.wrap x∧IntKind.u64.wrap x≤18446744073709551615:=by
 have h:IntKind.u64.wrap x=x%18446744073709551616:=by simp [IntKind.wrap,IntKind.signed,IntKind.bits]
 rw [h]
 omega
theorem p6(hc:dC sz f N b k oo nn fl cs)(h:Good sz f N b oo nn fl cs c8 i A)(hi:i<(Pl.Qd b cs).length)(hb:2*((f+2*N:Nat):Int)≤c8) :
 (A.exec f N b k cs).1=0∧Good sz f N b oo nn fl cs (c8-2*((f+2*N:Nat):Int)) (i+1) (A.exec f N b k cs).2∧(A.exec f N b k cs).2.st=1∧(A.exec f N b k cs).2.sg=false:=by
 obtain ⟨h1,h2,h3,h4⟩:=hc.at hi
 have hw:=iy hc hi
 have bM:=hc.hN.on
 have re:=hc.hN.bn
 have hm:=Good.ID hc h.di
 have hlen:=hc.len
 have fy:=hc.hN.mx
 have hL:Pl.JF b cs=Pl.first b cs cs.length:=rfl
 have hx:A.nx.toNat=i:=by rw [h.nx]; rfl
 unfold Pl.Ap.exec
 rw [hx,Good.lD hc h hi]
 generalize hW:Pl.ei (Fi nn b fl cs i) (Pl.JB b cs i)=W at hw
 generalize hd:Pl.JB b cs i=d at h2 h3 h4 hw hW
 obtain ⟨j1,j2,j3,j4⟩:=kG (S:=A.S) (r:=Pl.aW A.S k A.nx d.to W) h.di (LP _) hc.hj (Pl.Q5.2 ⟨by simp only [Pl.aW]; have:=h.nx; omega,by simp only [Pl.aW]; have:=h.nx; omega,h2,by simp only [Pl.aW]; omega,by simp only [Pl.aW]; omega⟩) hw.1 Ta
 have oP:=rP (M:=(max oo nn).toNat) (fun j hj=>j4 j Ta)
 generalize Pl.aP A.D f N b A.S (Pl.aW A.S k A.nx d.to W)=J at j1 j2 j3 j4 oP ⊢
 have fb:=Good.ID (A:=⟨J.2.1,J.2.2,A.st,A.nx,A.sg⟩) hc j3
 simp only at fb
 obtain ⟨w1,w2,w3⟩:=xi (a:=d.to.toNat) (bs:=W) j3 (by
  have:=Good.on (A:=⟨J.2.1,J.2.2,A.st,A.nx,A.sg⟩) hc j3 (a:=d.to) (n:=(W.length:Int)) h2 Ta Ta
  rw [show ((d.to.toNat:Nat):Int)=d.to by omega]
  exact this) Ta
 have Pt:=Fe (M:=(max oo nn).toNat) w3 Ta fb.2.1
 unfold Pl.Ap.put
 rw [LH (fun h=>h j1),LH (fun h=>h w1)]
 refine ⟨rfl,⟨w2.mono Ta,?_,by simp only; rw [h.nx]; omega,by simp only; rw [j2]; exact iJ _,by simp only; rw [j2]; simp only [Pl.aW]; omega⟩,rfl,rfl⟩
 simp only
 rw [Pt,oP,h.fi,yT hc hi,hd,hW]
theorem A9(hc:dC sz f N b k oo nn fl cs)(h:Good sz f N b oo nn fl cs c8 i A)(hi:i<(Pl.Qd b cs).length)(hb:2*((f+2*N:Nat):Int)≤c8)(ho:(Pl.dG A.S).of=(Pl.JB b cs i).to)(hd:(Pl.dG A.S).bs=Pl.ei (Fi nn b fl cs i) (Pl.JB b cs i)) :
 A.fK.1=0∧Good sz f N b oo nn fl cs (c8-2*((f+2*N:Nat):Int)) (i+1) A.fK.2∧A.fK.2.st=1∧A.fK.2.sg=false:=by
 obtain ⟨h1,h2,h3,h4⟩:=hc.at hi
 have hw:=iy hc hi
 have bM:=hc.hN.on
 have hm:=Good.ID hc h.di
 unfold Pl.Ap.fK
 rw [ho,hd]
 have hFn:=yT hc hi
 generalize Pl.ei (Fi nn b fl cs i) (Pl.JB b cs i)=W at hw hFn
 generalize Pl.JB b cs i=d at h2 h3 h4 hw hFn
 obtain ⟨w1,w2,w3⟩:=xi (a:=d.to.toNat) (bs:=W) h.di (by
  have:=Good.on hc h.di (a:=d.to) (n:=(W.length:Int)) h2 Ta Ta
  rw [show ((d.to.toNat:Nat):Int)=d.to by omega]
  exact this) Ta
 have Pt:=Fe (M:=(max oo nn).toNat) w3 Ta hm.2.1
 rw [LH (fun h=>h w1)]
 refine ⟨rfl,⟨w2.mono Ta,?_,by simp only; rw [h.nx]; omega,h.sn,h.la⟩,rfl,rfl⟩
 simp only
 rw [Pt,h.fi,hFn]
theorem Ff(hc:dC sz f N b k oo nn fl cs)(h:Good sz f N b oo nn fl cs c8 i A)(hb:((f+2*N:Nat):Int)≤c8) :
 (A.fin f N b k cs).1=0∧DI sz (f+2*N) (c8-((f+2*N:Nat):Int)) (A.fin f N b k cs).2.D∧(A.fin f N b k cs).2.st=2∧(A.fin f N b k cs).2.D.dk.take (max oo nn).toNat=Fi nn b fl cs i:=by
 have bM:=hc.hN.on
 have re:=hc.hN.bn
 have hm:=Good.ID hc h.di
 have hlen:=hc.len
 have fy:=hc.hN.mx
 have hL:Pl.JF b cs=Pl.first b cs cs.length:=rfl
 obtain ⟨j1,j2,j3,j4⟩:=kG (S:=A.S) (r:=Pl.aW A.S k (Pl.JF b cs) 0 []) h.di (LP _) hc.hj (Pl.Q5.2 ⟨by simp only [Pl.aW]; omega,by simp only [Pl.aW]; omega,Int.le_refl _,by simp only [Pl.aW]; omega,by simp [Pl.aW]⟩) (by simp only [Pl.aW,LA]; omega) hb
 have oP:=rP (M:=(max oo nn).toNat) (fun j hj=>j4 j Ta)
 unfold Pl.Ap.fin
 rw [LH (fun h=>h j1)]
 exact ⟨rfl,j3,rfl,by simp only; rw [oP,h.fi]⟩
theorem YP(hc:dC sz f N b k oo nn fl cs)(h:Good sz f N b oo nn fl cs c8 i A)(hi:i≤(Pl.Qd b cs).length)(jW:A.sg=true→i<(Pl.Qd b cs).length∧(Pl.dG A.S).of=(Pl.JB b cs i).to∧(Pl.dG A.S).bs=Pl.ei (Fi nn b fl cs i) (Pl.JB b cs i)):Pl.SidP f N b oo nn (Pl.bQ fl cs nn.toNat) cs A:=by
 have bM:=hc.hN.on
 have hm:=Good.ID hc h.di
 have hlen:=hc.len
 refine ⟨h.di.dn,by rw [h.di.hsz]; exact hc.sl,by rw [h.di.hcnt]; exact LP _,h.sn,by rw [h.di.ca,h.di.hcnt]; have:=hc.cn; simp only [LA]; omega,by rw [h.nx,hlen]; omega,Good.on hc h.di (Int.le_refl _) Ta Ta,Good.on hc h.di (Int.le_refl _) Ta Ta,h.la,fun hs=>?_,fun _ _ hx=>?_⟩
 · obtain ⟨h1,h2,h3⟩:=jW hs
   obtain ⟨g1,g2,-⟩:=hc.at h1
   have hw:=iy hc h1
   rw [h2,h3]
   exact ⟨by rw [h.nx,hlen]; omega,g2,Good.on hc h.di g2 Ta Ta⟩
 · have hie:i=(Pl.Qd b cs).length:=by rw [h.nx,hlen] at hx; omega
   rw [rQ h.di (Int.le_refl _) Ta (M:=(max oo nn).toNat) Ta hm.2.2,h.fi,hie]
   exact xj hc
end
section
variable {sz f N:Nat}{b k oo nn:Int}{fl:Th}{cs:List Pl.Cm}
theorem nI(hc:dC sz f N b k oo nn fl cs):∀ (m i:Nat) (A:Pl.Ap) (c8:Int),i+m=(Pl.Qd b cs).length→Good sz f N b oo nn fl cs c8 i A→A.st≠2→A.sg=false→((f+2*N:Nat):Int)*(2*(m:Int)+1)≤c8 →
 ∃ n B,Pl.RunTo (Pl.Ap.step f N b k cs) (Pl.SidP f N b oo nn (Pl.bQ fl cs nn.toNat) cs) n A 0 B∧DI sz (f+2*N) 0 B.D∧B.D.dk.take (max oo nn).toNat=Fi nn b fl cs (Pl.Qd b cs).length
 | 0,i,A,c8,hi,h,cF,jW,hb=>by
  have hL:=hc.len
  have hs:=YP hc h Ta (fun h9=>by rw [jW] at h9; cases h9)
  rw [show (2*((0:Nat):Int)+1)=1 from rfl,Int.mul_one] at hb
  obtain ⟨g1,g2,g3,g4⟩:=Ff hc h hb
  have e:Pl.Ap.step f N b k cs A=A.fin f N b k cs:=by
   unfold Pl.Ap.step
   rw [LH cF,LH (by rw [jW]; decide),LI (by rw [h.nx,hL]; omega)]
  have r:=Pl.RunTo.stop (st:=Pl.Ap.step f N b k cs) hs (.inr (by rw [e]; exact g3))
  rw [e,g1] at r
  exact ⟨0,_,r,g2.mono Ta,by rw [g4,show i=(Pl.Qd b cs).length from hi]⟩
 | m+1,i,A,c8,hi,h,cF,jW,hb=>by
  have hL:=hc.len
  have hs:=YP hc h Ta (fun h9=>by rw [jW] at h9; cases h9)
  have hm:((f+2*N:Nat):Int)*(2*((m+1:Nat):Int)+1)=((f+2*N:Nat):Int)*(2*(m:Int)+1)+2*((f+2*N:Nat):Int):=by
   rw [show (2*((m+1:Nat):Int)+1)=(2*(m:Int)+1)+2 by omega,Int.mul_add ((f+2*N:Nat):Int),Int.mul_comm _ (2:Int)]
  have hp:(0:Int)≤((f+2*N:Nat):Int)*(2*(m:Int)+1):=Int.mul_nonneg Ta Ta
  rw [hm] at hb
  obtain ⟨g1,g2,g3,g4⟩:=p6 (k:=k) hc h Ta Ta
  have e:Pl.Ap.step f N b k cs A=A.exec f N b k cs:=by
   unfold Pl.Ap.step
   rw [LH cF,LH (by rw [jW]; decide),LH (by rw [h.nx,hL]; omega)]
  obtain ⟨n,B,r,r2⟩:=nI hc m (i+1) _ _ Ta g2 (by rw [g3]; decide) g4 Ta
  refine ⟨n+1,B,.next hs (by rw [e]; exact g1) (by rw [e,g3]; decide) ?_,r2⟩
  rw [e]
  exact r
theorem xk(hc:dC sz f N b k oo nn fl cs){m i:Nat}{A:Pl.Ap}{c8:Int}(hi:i+1+m=(Pl.Qd b cs).length)(h:Good sz f N b oo nn fl cs c8 i A)(cF:A.st≠2)(jW:A.sg=true)(ho:(Pl.dG A.S).of=(Pl.JB b cs i).to)(hd:(Pl.dG A.S).bs=Pl.ei (Fi nn b fl cs i) (Pl.JB b cs i))(hb:((f+2*N:Nat):Int)*(2*(m:Int)+1)+2*((f+2*N:Nat):Int)≤c8) :
 ∃ n B,Pl.RunTo (Pl.Ap.step f N b k cs) (Pl.SidP f N b oo nn (Pl.bQ fl cs nn.toNat) cs) n A 0 B∧DI sz (f+2*N) 0 B.D∧B.D.dk.take (max oo nn).toNat=Fi nn b fl cs (Pl.Qd b cs).length:=by
 have hp:(0:Int)≤((f+2*N:Nat):Int)*(2*(m:Int)+1):=Int.mul_nonneg Ta Ta
 have hs:=YP hc h Ta (fun _=>⟨Ta,ho,hd⟩)
 obtain ⟨g1,g2,g3,g4⟩:=A9 hc h Ta Ta ho hd
 have e:Pl.Ap.step f N b k cs A=A.fK:=by
  unfold Pl.Ap.step
  rw [LH cF,LI jW]
 obtain ⟨n,B,r,r2⟩:=nI hc m (i+1) _ _ Ta g2 (by rw [g3]; decide) g4 Ta
 refine ⟨n+1,B,.next hs (by rw [e]; exact g1) (by rw [e,g3]; decide) ?_,r2⟩
 rw [e]
 exact r
end
theorem p7{s:Int}:∀ {cs:List Pl.Cm} {b:Nat} {p:Nat×Pl.Cm},p∈Pl.steps s b cs→∃ c∈cs,p.2∈Pl.chunks c s
 | [],b,p,h=>by cases h
 | c::r,b,p,h=>by
  unfold Pl.steps at h
  rcases Ls.1 h with h | h
  · obtain ⟨d,hd,rfl⟩:=Ln.1 h
    exact ⟨c,Lo ..,hd⟩
  · obtain ⟨d,hd,h2⟩:=p7 h
    exact ⟨d,LX _ hd,h2⟩
theorem jk{s M:Int}(hM:0≤M):∀ {cs:List Pl.Cm},(∀ c∈cs,Pl.Ji c s≤M)→Pl.first s cs cs.length≤cs.length*M
 | [],_=>by simp [Pl.first]
 | c::r,h=>by
  have h1:=jk hM fun x hx=>h x (LX _ hx)
  have h2:=h c (Lo ..)
  rw [Li,show Pl.first s (c::r) (r.length+1)=Pl.Ji c s+Pl.first s r r.length from rfl,show ((r.length+1:Nat):Int)=(r.length:Int)+1 by omega,Int.add_mul,Int.one_mul]
  omega
theorem nJ{M:Int}(hM:0≤M):∀ (es:Tl) (n:Int),(∀ e∈es,e.2≤M)→n+es.length*M≤4611686018427387903→(Pl.total n es).isSome=true
 | [],_,_,_=>rfl
 | e::r,n,h,hn=>by
  have h1:=h e (Lo ..)
  have h2:(0:Int)≤(r.length:Int)*M:=Int.mul_nonneg Ta hM
  rw [Li,show ((r.length+1:Nat):Int)=(r.length:Int)+1 by omega,Int.add_mul,Int.one_mul] at hn
  unfold Pl.total
  rw [LH Ta]
  exact nJ hM r _ (fun x hx=>h x (LX _ hx)) Ta
theorem K3{b oo nn:Int}{fl:Th}{ds:List Pl.Cm}(ho:oo=fl.length)(bY:fl.length≤300)(hn:nn≤300)(hl:ds.length≤100)(hv:Pl.VD oo nn ds)(hs:Pl.Safe ds)(hb:1≤b∧b≤300):NwOk b oo nn fl ds:=by
 have P6:=hv.lens
 have one:∀ c∈ds,Pl.av c=0∧Pl.Ji c b≤300∧Pl.aw c≤300∧(c.k=1→c.fr+c.ln≤oo)∧c.to+Pl.aw c≤nn:=fun c hc=>by
  obtain ⟨h1,h2,h3⟩:=Pl.Jw (hv.one c hc)
  have h4:=Pl.Jl h1
  have h5:=Pl.J9 h1 hb.1
  exact ⟨h1,Ta,Ta,h2,h3⟩
 have F6:=jk (s:=b) (M:=300) Ta (cs:=ds) fun c hc=>(one c hc).2.1
 refine ⟨hl,ho,hv,hs,Ta,fun c hc=>⟨(one c hc).1,by have:=(one c hc).2.1; omega⟩,Ta,Ta,fun p hp=>?_,?_⟩
 · obtain ⟨c,hc,hd⟩:=p7 hp
   obtain ⟨h1,h2,h3,h4,h5⟩:=one c hc
   have h9:=Pl.Jl h1
   unfold Pl.chunks at hd
   rw [LH Ta] at hd
   obtain ⟨k,hk,e⟩:=Ln.1 hd
   have qA:=List.mem_range.1 hk
   have iB:(0:Int)≤(k:Int)∧(k:Int)<Pl.Ji c b:=by omega
   have g1:=Pl.Xj h1 iB
   obtain ⟨g2,g3,g4,g5⟩:=Pl.lO h1 iB
   have g6:=Pl.Jl g2
   have g7:=Pl.Gn h1 iB
   rw [e] at g2 g3 g4 g5 g6 g7
   refine ⟨Ta,fun h=>?_,fun h=>?_⟩
   · have:=g7 Ta
     have:=h4 Ta
     omega
   · omega
 · refine nJ (M:=300) Ta _ _ (fun e he=>?_) (by unfold Pl.targets; rw [Lj]; omega)
   obtain ⟨c,hc,rfl⟩:=Ln.1 he
   exact (one c hc).2.2.1
theorem yU{oo nn:Int}{H:Nat→UInt8}{ds:List Pl.Cm}(hl:ds.length≤100)(h:∀ c∈ds,c.bs.length≤1000000):(Pl.eU oo nn H ds).length≤1000000000000:=by
 have h1:=rz oo nn H ds.length
 have h2:=yy h
 unfold Pl.eU
 rw [Lc]
 omega
theorem Pu{sz M:Nat}(hs:1≤sz):Pl.sN sz 0 M≤M∧M≤Pl.sN sz 0 M*sz:=by
 have h1:=Pl.wz (sz:=sz) (a:=0) (b:=M) hs
 have h2:Pl.sF sz 0 M=0:=by unfold Pl.sF; split <;> simp
 rw [h2,LV,LV] at h1
 refine ⟨?_,Ta⟩
 unfold Pl.sN
 split
 · omega
 · rw [Nat.zero_div,LV]
   have:=Nat.div_le_self (M-1) sz
   omega
theorem IE{sz:Nat}{b oo nn:Int}{fl:Th}(ho:oo=fl.length)(bY:fl.length≤300)(hn:0≤nn∧nn≤300)(hsz:1≤sz∧sz≤1000)(hb:1≤b∧b≤300) :
 ∃ f N:Nat,Pl.X7 sz b oo nn=0∧Pl.qv sz oo nn=(f:Int)∧Pl.slot sz b=(N:Int)∧N≠0∧Pl.right sz ((f+2*N:Nat):Int) fl.length=true∧max oo nn≤((f*sz:Nat):Int)∧b+44≤(N:Int)*(sz:Int)∧f+2*N≤1000∧fl.length≤(f+2*N)*sz∧(f+2*N)*sz≤1048576:=by
 have hsb:=Pl.lI (sz:Int) b
 have hz:=mt (Pl.zr (sz:Int) b).1 Ta
 obtain ⟨M,hM⟩:∃ M:Nat,max oo nn=(M:Int):=⟨(max oo nn).toNat,Ta⟩
 obtain ⟨N,hN⟩:∃ N:Nat,Pl.slot (sz:Int) b=(N:Int):=⟨(Pl.slot (sz:Int) b).toNat,Ta⟩
 have kz:=Pl.tB (sz:=sz) (a:=0) (b:=M) hsz.1 Ta
 have hf:=Pu (sz:=sz) (M:=M) hsz.1
 have P3:=Pl.tE hN Ta
 have hN1:(N:Int)-1≤((N:Int)-1)*(sz:Int):=by
  have:=Int.mul_le_mul_of_nonneg_left (show (1:Int)≤(sz:Int) by omega) (show (0:Int)≤(N:Int)-1 by omega)
  rwa [Int.mul_one] at this
 refine ⟨Pl.sN sz 0 M,N,?_,?_,hN,Ta,?_⟩
 · unfold Pl.X7
   rw [LH hz,LH (by rw [Pl.VU.2 Ta,Pl.VU.2 Ta]; simp)]
 · unfold Pl.qv
   rw [hM]
   exact LM Prod.snd kz
 · generalize Pl.sN sz 0 M=F at hf
   have h1:F*sz≤(F+2*N)*sz:=Lr _ (Nat.le_add_right _ _)
   have h2:(F+2*N)*sz≤1000*1000:=Nat.mul_le_mul Ta hsz.2
   have h3:(sz:Int)*((F+2*N:Nat):Int)=(((F+2*N)*sz:Nat):Int):=by rw [Int.natCast_mul,Int.mul_comm]
   refine ⟨?_,Ta,Ta,Ta,Ta,Ta⟩
   unfold Pl.right
   rw [LO,h3]
   omega
theorem vg{sz f N:Nat}{fl:Th}{n p:Int}(hs:1≤sz)(hN:N≠0)(hb:fl.length≤f*sz)(hx:(f+2*N)*sz≤1048576)(k:Int)(hn:Pl.aA n)(hp:0≤p∧p≤18446744073709551615):Pl.bG (Pl.jQ (Pl.jR sz (f+2*N) fl) n p) f N k=⟨1,false,Pl.Fz⟩:=by
 have h1:f*sz≤(f+2*N)*sz:=Lr _ (Nat.le_add_right _ _)
 have hk:Pl.okDv (Pl.jQ (Pl.jR sz (f+2*N) fl) n p):=Pl.lZ (Pl.qF hs Ta hx Ta) hn hp
 have hz:∀ i,i<2→Pl.gN (Pl.jQ (Pl.jR sz (f+2*N) fl) n p) f N i=none:=fun i hi=>by
  have hj:=Pl.mK (D:=Pl.jQ (Pl.jR sz (f+2*N) fl) n p) (f:=f) (N:=N) (LP _) hi
  refine Pl.pE hk rfl Ta (LP _) hi fun j h3 h4=>?_
  have h5:f*sz≤Pl.aY (Pl.jQ (Pl.jR sz (f+2*N) fl) n p) f N i:=Lr sz (Nat.le_add_right _ _)
  have h6:j<(f+2*N)*sz:=Nat.lt_of_lt_of_le h4 hj
  show (fl++List.replicate ((f+2*N)*sz-fl.length) 0)[j]?=some 0
  rw [L6 Ta,List.getElem?_replicate,LI Ta]
 unfold Pl.bG Pl.eO
 rw [hz 0 Tb,hz 1 Tb]
 rfl
theorem Pv{sz:Nat}{b oo nn:Int}{fl:Th}{cs:List aa}{ds:List Pl.Cm}(ho:oo=fl.length)(bY:fl.length≤300)(hn:nn≤300)(hl:cs.length≤100)(hv:Pl.VD oo nn (cs.map aa.cm))(hsz:1≤sz∧sz≤1000)(hb:1≤b∧b≤300)(ha:Pl.ET fl cs ds):Pl.Ix sz b oo nn fl [] 1 ds:=by
 obtain ⟨H5,-,hlen⟩:=rJ ho hv ha
 have P6:=hv.lens
 have hN:=K3 (b:=b) ho bY hn Ta H5 (uV hv ha) hb
 obtain ⟨f,N,l1,l2,l3,l4,l5,l6,l7,l8,l9,l10⟩:=IE ho bY ⟨P6.2.1,hn⟩ hsz hb
 have PQ:∀ c∈ds,c.bs.length≤1000000:=fun c hc=>by
  obtain ⟨h1,h2,h3⟩:=Pl.Jw (H5.one c hc)
  have h4:=Pl.Jl h1
  rcases h4.1 with h | h
  · rw [h.2.2.1]; simp
  · omega
 have hH:=yU (oo:=oo) (nn:=nn) (H:=Pl.hh (Pl.bu fl) (Pl.bu (Pl.bQ fl ds nn.toNat))) hN.few PQ
 obtain ⟨bN,hk⟩:∃ bN,Pl.KE (Pl.eU oo nn (Pl.hh (Pl.bu fl) (Pl.bu (Pl.bQ fl ds nn.toNat))) ds)=bN:=⟨_,rfl⟩
 have Cg:0≤bN∧bN≤18446744073709551615:=by rw [← hk]; exact Pl.iR _ _ _
 have hc:dC sz f N b bN oo nn fl ds:=⟨hN,hsz.1,l6,l7,l3,Ta⟩
 have cz:=vg (fl:=fl) (n:=-1) (p:=0) hsz.1 l4 Ta l10 bN (by unfold Pl.aA; omega) Ta
 have aq:Pl.okDv (Pl.jQ (Pl.jR sz (f+2*N) fl) (-1) 0):=Pl.lZ (Pl.qF hsz.1 Ta l10 l9) (by unfold Pl.aA; omega) Ta
 obtain ⟨A,hA⟩:∃ A:Pl.Ap,A=⟨Pl.jQ (Pl.jR sz (f+2*N) fl) (-1) 0,⟨1,false,Pl.Fz⟩,0,0,false⟩:=⟨_,rfl⟩
 have hdi:DI sz (f+2*N) 4611686018427387903 A.D:=by
  rw [hA]
  exact ⟨aq,rfl,by show max (-1:Int) (-1)<0; decide,rfl,rfl,rfl,by show (0:Int)≤0∧(0:Int)+4611686018427387903≤4611686018427387903; decide⟩
 have fy:=Good.ID (A:=A) hc hdi
 have mS:A.D.dk=fl++List.replicate ((f+2*N)*sz-fl.length) 0:=by rw [hA]; rfl
 have hM:fl.length≤(max oo nn).toNat∧(max oo nn).toNat=fl.length+(nn-fl.length).toNat:=by omega
 have hg:Good sz f N b oo nn fl ds 4611686018427387903 0 A:=by
  refine ⟨hdi,?_,by rw [hA]; rfl,by rw [hA]; show (0:Int)≤1∧(1:Int)≤18446744073709551615; decide,by rw [hA]; exact LL _⟩
  unfold Fi Pl.eS
  rw [mS,List.take_zero,List.foldl_nil,List.take_append,LZ hM.1,List.take_replicate]
  congr 2
  omega
 have hLL:=hc.len
 have hfb:=jk (s:=b) (M:=300) Ta (cs:=ds) fun c hc=>by
  obtain ⟨h1,h2,h3⟩:=Pl.Jw (H5.one c hc)
  have h4:=Pl.Jl h1
  have h5:=Pl.J9 h1 hb.1
  omega
 unfold Pl.JF at hLL
 have jch:((f+2*N:Nat):Int)*(2*((Pl.Qd b ds).length:Int)+1)≤4611686018427387903:=by
  have:=Int.mul_le_mul (show ((f+2*N:Nat):Int)≤1000 by omega) (show (2*((Pl.Qd b ds).length:Int)+1)≤100000 by omega) Ta Ta
  omega
 obtain ⟨n,B,r1,r2,r3⟩:=nI hc (Pl.Qd b ds).length 0 A _ Ta hg (by rw [hA]; show (0:Int)≠2; decide) (by rw [hA]) jch
 refine ⟨f,N,bN,Pl.pj B.D,hk,Cg,hH,hN,l1,l2,l3,l4,l5,.last ?_ Tb,?_,?_⟩
 · refine ⟨rfl,l1,l2,l3,LP _,by rw [cz]; exact LL _,fun h=>by (rw [cz] at h; cases h),fun _=>?_,⟨n,B,?_,rfl,by rw [r2.ca]; exact LL _⟩⟩
   · have:=rQ (D:=A.D) hdi (a:=0) (n:=oo) (M:=(max oo nn).toNat) Ta Ta Ta fy.2.2
     rw [hA] at this
     refine this.trans ?_
     have e2:((Pl.jR sz (f+2*N) fl).dk.take (max oo nn).toNat).take oo.toNat=fl:=by
      rw [List.take_take,show min oo.toNat (max oo nn).toNat=fl.length by omega]
      exact Pl.Cq _ _ _
     exact e2
   · rw [cz]
     rw [hA] at r1
     exact r1
 · show (Pl.dr _ _ _ _ _).take _=_
   rw [Pl.Xl,← xj hc,← r3,List.take_take,show min nn.toNat (max oo nn).toNat=nn.toNat by omega]
 · show _<(Pl.dr _ _ _ _ _).length
   rw [Pl.Xl,r2.ok.len,r2.hcnt,r2.hsz,Kh,Nat.mul_assoc]
   have e1:((N*sz:Nat):Int)=(N:Int)*sz:=Int.natCast_mul N sz
   omega
def arm(D:Pl.Dv)(w p:Int):Pl.Dv:={ D with wr:=w,kp:=p }
theorem Fg{D:Pl.Dv}{a i:Nat}{bs:Th}(hd:D.dn=false)(hi:i<D.cnt)(hw:D.wr<0):Pl.cg a bs 1 i D=(0,Pl.VB D (i:Int) (Pl.VK D.sz (Pl.ej D (i:Int)) a bs i)):=by
 have hx:=Pl.Xp D.sz (Pl.ej D (i:Int)) a bs i
 have hc:Pl.JI D (i:Int)=0:=by unfold Pl.JI; rw [LH (by simp [hd]),LH Ta]
 have e1:Pl.Yt D (i:Int) (Pl.VK D.sz (Pl.ej D (i:Int)) a bs i)=0:=by rw [Pl.Xn hc hx,LH Ta]
 have e3:=Pl.qE hc hx hw
 simp only [Pl.cg]
 rw [LH (fun h=>h hc),LH (fun h=>h e1),e3]
theorem yV{D:Pl.Dv}{a i:Nat}{bs:Th}{w p:Int}(hd:D.dn=false)(hi:i<D.cnt)(hw:D.wr<0)(h0:0<w):Pl.cg a bs 1 i (arm D w p)=((Pl.cg a bs 1 i D).1,arm (Pl.cg a bs 1 i D).2 (w-1) p):=by
 have hx:=Pl.Xp D.sz (Pl.ej D (i:Int)) a bs i
 have hc:Pl.JI (arm D w p) (i:Int)=0:=by unfold Pl.JI; rw [LH (by simp [arm,hd]),LH (by simp only [arm]; omega)]
 have e1:Pl.Yt (arm D w p) (i:Int) (Pl.VK D.sz (Pl.ej D (i:Int)) a bs i)=0:=by rw [Pl.Xn hc hx,LH (by simp only [arm]; omega)]
 have e3:=Pl.Ck (D:=arm D w p) hc hx h0
 rw [Fg hd hi hw]
 simp only [Pl.cg]
 rw [LH (fun h=>h hc)]
 exact (LH (fun h=>h e1)).trans<|LM (Prod.mk 0) e3
theorem Ba{D:Pl.Dv}{a i:Nat}{bs:Th}{p:Int}(hd:D.dn=false)(hi:i<D.cnt):Pl.cg a bs 1 i (arm D 0 p)=(18,{ Pl.bm { Pl.VB (arm D 0 p) (i:Int) (Pl.VK D.sz (Pl.ej D (i:Int)) a bs i) with wr:=-1 } (Pl.gG p) with dn:=true,sC:=Pl.inc D.sC }):=by
 have hx:=Pl.Xp D.sz (Pl.ej D (i:Int)) a bs i
 have hc:Pl.JI (arm D 0 p) (i:Int)=0:=by unfold Pl.JI; rw [LH (by simp [arm,hd]),LH (by simp only [arm]; omega)]
 have e1:Pl.Yt (arm D 0 p) (i:Int) (Pl.VK D.sz (Pl.ej D (i:Int)) a bs i)=18:=(Pl.Xn hc hx).trans (LI rfl)
 have e3:=Pl.v7 (D:=arm D 0 p) hc hx rfl
 simp only [Pl.cg]
 rw [LH (fun h=>h hc)]
 exact (LI (fun h=>absurd (e1.symm.trans h) Tb)).trans<|Prod.ext e1 e3
theorem kH(D:Pl.Dv)(w p:Int):Pl.fe (arm D w p)=arm (Pl.fe D) w p∧Pl.QS (arm D w p)=Pl.QS D:=by
 refine ⟨?_,rfl⟩
 unfold Pl.fe
 by_cases h:D.dn=true
 · rw [LI h,LI (show (arm D w p).dn=true from h)]
 · rw [LH h,LH (show ¬ (arm D w p).dn=true from h)]; rfl
theorem IF{D:Pl.Dv}{a:Nat}{bs:Th}{w p:Int}(hd:D.dn=false)(hn:Pl.sN D.sz a bs.length=1)(hi:Pl.sF D.sz a bs.length<D.cnt)(hw:D.wr<0)(h0:0<w):Pl.dB (arm D w p) a bs=((Pl.dB D a bs).1,arm (Pl.dB D a bs).2 (w-1) p):=by
 have h1:=yV (a:=a) (bs:=bs) (p:=p) hd hi hw h0
 unfold Pl.dB
 rw [show (arm D w p).sz=D.sz from rfl,hn,h1]
 simp only
 rw [(kH _ _ _).1,(kH _ _ _).2]
 split <;> rfl
theorem Fh{D:Pl.Dv}{f N:Nat}{b w p:Int}{S:Pl.Jn}{r:Pl.Rc}(hd:D.dn=false)(hn:Pl.sN D.sz (Pl.aY D f N (Pl.Jo S)) (Pl.aC r).length=1)(hi:Pl.sF D.sz (Pl.aY D f N (Pl.Jo S)) (Pl.aC r).length<D.cnt)(hw:D.wr<0)(h0:0<w)(ha:Pl.bt r=true∧(r.bs.length:Int)≤b) :
 Pl.aP (arm D w p) f N b S r=((Pl.aP D f N b S r).1,arm (Pl.aP D f N b S r).2.1 (w-1) p,(Pl.aP D f N b S r).2.2):=by
 have h1:=yV (a:=Pl.aY D f N (Pl.Jo S)) (bs:=Pl.aC r) (p:=p) hd hi hw h0
 have h2:Pl.nN (arm D w p) f N S r=((Pl.nN D f N S r).1,arm (Pl.nN D f N S r).2 (w-1) p):=by
  unfold Pl.nN
  rw [show (arm D w p).sz=D.sz from rfl,show Pl.aY (arm D w p) f N (Pl.Jo S)=Pl.aY D f N (Pl.Jo S) from rfl,hn,h1]
 unfold Pl.aP
 rw [LI ha,LI ha]
 unfold Pl.qO
 rw [h2]
 simp only
 rw [(kH _ _ _).1,(kH _ _ _).2]
 split
 · rfl
 · split <;> rfl
section
variable {sz f N:Nat}{b k oo nn:Int}{fl:Th}{cs:List Pl.Cm}{c8:Int}{i:Nat}{A:Pl.Ap}
def Vs(k b nn:Int)(fl:Th)(cs:List Pl.Cm)(S:Pl.Jn)(i:Nat):Pl.Rc:=Pl.aW S k (i:Int) (Pl.JB b cs i).to (Pl.ei (Fi nn b fl cs i) (Pl.JB b cs i))
theorem rR(hc:dC sz f N b k oo nn fl cs)(hk:0≤k∧k≤18446744073709551615)(h:Good sz f N b oo nn fl cs c8 i A)(hi:i<(Pl.Qd b cs).length):Pl.ob (Vs k b nn fl cs A.S i)∧Pl.bt (Vs k b nn fl cs A.S i)=true∧((Vs k b nn fl cs A.S i).bs.length:Int)≤b:=by
 obtain ⟨h1,h2,h3,h4⟩:=hc.at hi
 have hw:=iy hc hi
 have bM:=hc.hN.on
 have hlen:=hc.len
 have fy:=hc.hN.mx
 have re:=hc.hN.bn
 have kz:=h.sn
 have hL:Pl.JF b cs=Pl.first b cs cs.length:=rfl
 unfold Vs Pl.aW
 refine ⟨⟨kz,hk,?_,?_⟩,Pl.Q5.2 ?_,hw.1⟩ <;> simp only [Pl.aA] <;> omega
theorem rS(hc:dC sz f N b k oo nn fl cs)(h:Good sz f N b oo nn fl cs c8 i A)(hi:i<(Pl.Qd b cs).length)(w p:Int):Pl.Ap.exec f N b k cs ⟨arm A.D w p,A.S,A.st,A.nx,A.sg⟩=Pl.Ap.put ⟨arm A.D w p,A.S,A.st,A.nx,A.sg⟩ (Pl.aP (arm A.D w p) f N b A.S (Vs k b nn fl cs A.S i)) (Pl.JB b cs i).to (Pl.ei (Fi nn b fl cs i) (Pl.JB b cs i)):=by
 have hx:A.nx.toNat=i:=by rw [h.nx]; rfl
 have hb:Pl.Ap.lD ⟨arm A.D w p,A.S,A.st,A.nx,A.sg⟩ (Pl.JB b cs i)=Pl.ei (Fi nn b fl cs i) (Pl.JB b cs i):=(show _=A.lD (Pl.JB b cs i) from rfl).trans (Good.lD hc h hi)
 unfold Pl.Ap.exec
 rw [show (Pl.Ap.mk (arm A.D w p) A.S A.st A.nx A.sg).nx.toNat=i from hx,hb]
 unfold Vs
 rw [← h.nx]
theorem Fj(hc:dC sz f N b k oo nn fl cs)(h:Good sz f N b oo nn fl cs c8 i A)(hi:i<(Pl.Qd b cs).length):Pl.Ap.exec f N b k cs A=A.put (Pl.aP A.D f N b A.S (Vs k b nn fl cs A.S i)) (Pl.JB b cs i).to (Pl.ei (Fi nn b fl cs i) (Pl.JB b cs i)):=rS hc h hi A.D.wr A.D.kp
theorem qc{D:Pl.Dv}{S:Pl.Jn}{r:Pl.Rc}(h:DI sz (f+2*N) c8 D)(hj:b+44≤(N:Int)*(sz:Int))(hr:Pl.bt r=true)(ho:Pl.ob r)(hl:(r.bs.length:Int)≤b)(hb:((f+2*N:Nat):Int)≤c8) :
 Pl.QX (Pl.aP D f N b S r).2.1 f N (Pl.Jo S) (some r)∧∀ q o,q<2→q≠Pl.Jo S→Pl.QX D f N q o→Pl.QX (Pl.aP D f N b S r).2.1 f N q o:=by
 have nk:=Pl.VC r
 have yo:((N*D.sz:Nat):Int)=(N:Int)*(D.sz:Int):=Int.natCast_mul N D.sz
 have hsz:=h.hsz
 have xX:=h.hcnt
 rw [hsz] at yo
 have bM:Pl.eF D ((Pl.aY D f N (Pl.Jo S):Nat):Int) ((Pl.aC r).length:Int)=true:=Pl.SA h.ok Ta (Pl.Xv S) (by rw [hsz]; omega)
 have e:Pl.aP D f N b S r=Pl.qO D f N S r:=LI ⟨hr,hl⟩
 obtain ⟨w1,w2,w3,w4⟩:=Fc h bM hb
 rw [e]
 unfold Pl.qO Pl.nN
 rw [LH (fun h=>h w1),LH (fun h=>h w2)]
 have qW:∀ q,Pl.aY (Pl.fe (Pl.cg (Pl.aY D f N (Pl.Jo S)) (Pl.aC r) (Pl.sN D.sz (Pl.aY D f N (Pl.Jo S)) (Pl.aC r).length) (Pl.sF D.sz (Pl.aY D f N (Pl.Jo S)) (Pl.aC r).length) D).2) f N q=Pl.aY D f N q:=fun q=>LM (fun z=>(f+q*N)*z) (w3.hsz.trans hsz.symm)
 refine ⟨⟨ho,hr,by rw [w3.hsz]; omega,fun j hjj=>?_⟩,fun q o hq bO hs=>?_⟩
 · rw [qW,w4,LI Ta,Kk]
 · exact hs.keep (L:=(Pl.aC r).length) (q:=Pl.Jo S) (by rw [w3.hsz,hsz]) hq (Pl.Xv S) bO (by rw [hsz]; omega) fun j hjj=>by rw [w4,LH hjj]
theorem Bb{D E:Pl.Dv}{q:Nat}{o:Option Pl.Rc}(hs:E.sz=D.sz)(h:Pl.QX D f N q o)(mS:∀ j,f*D.sz≤j→E.dk[j]?=D.dk[j]?):Pl.QX E f N q o:=by
 have qW:Pl.aY E f N q=Pl.aY D f N q:=by unfold Pl.aY; rw [hs]
 have hle:f*D.sz≤Pl.aY D f N q:=Lr _ (Nat.le_add_right _ _)
 cases o with
 | none=>intro j hj; rw [qW,mS _ Ta]; exact h j (by rw [← hs]; exact hj)
 | some r=>
  obtain ⟨h1,h2,h3,h4⟩:=h
  exact ⟨h1,h2,by rw [hs]; exact h3,fun j hj=>by rw [qW,mS _ Ta]; exact h4 j hj⟩
theorem Bc(hc:dC sz f N b k oo nn fl cs)(hk:0≤k∧k≤18446744073709551615)(h:Good sz f N b oo nn fl cs c8 i A)(hi:i<(Pl.Qd b cs).length)(hb:2*((f+2*N:Nat):Int)≤c8) :
 (A.exec f N b k cs).2.S=⟨IntKind.u64.wrap (A.S.nx+1),true,Vs k b nn fl cs A.S i⟩∧Pl.QX (A.exec f N b k cs).2.D f N (Pl.Jo A.S) (some (Vs k b nn fl cs A.S i))∧(∀ q o,q<2→q≠Pl.Jo A.S→Pl.QX A.D f N q o→Pl.QX (A.exec f N b k cs).2.D f N q o) ∧
 ∀ w p,2≤w→Pl.sN sz (Pl.aY A.D f N (Pl.Jo A.S)) (Pl.aC (Vs k b nn fl cs A.S i)).length=1→Pl.sN sz (Pl.JB b cs i).to.toNat (Pl.ei (Fi nn b fl cs i) (Pl.JB b cs i)).length=1 →
  Pl.Ap.exec f N b k cs ⟨arm A.D w p,A.S,A.st,A.nx,A.sg⟩=(0,⟨arm (A.exec f N b k cs).2.D (w-2) p,(A.exec f N b k cs).2.S,1,A.nx+1,false⟩):=by
 obtain ⟨h1,h2,h3,h4⟩:=hc.at hi
 have hw:=iy hc hi
 have bM:=hc.hN.on
 have hm:=Good.ID hc h.di
 obtain ⟨r1,r2,r3⟩:=rR hc hk h hi
 obtain ⟨j1,j2,j3,j4⟩:=kG (S:=A.S) h.di (LP _) hc.hj r2 r3 Ta
 obtain ⟨s1,s2⟩:=qc (S:=A.S) h.di hc.hj r2 r1 r3 Ta
 have ja:=fun (w p:Int) (h0:0<w) (hn:Pl.sN sz (Pl.aY A.D f N (Pl.Jo A.S)) (Pl.aC (Vs k b nn fl cs A.S i)).length=1) (hx:Pl.sF A.D.sz (Pl.aY A.D f N (Pl.Jo A.S)) (Pl.aC (Vs k b nn fl cs A.S i)).length<A.D.cnt)=>Fh (p:=p) h.di.dn (by rw [h.di.hsz]; exact hn) hx h.di.wr h0 ⟨r2,r3⟩
 have ee:=rS hc h hi
 rw [Fj hc h hi]
 have nk:=Pl.VC (Vs k b nn fl cs A.S i)
 have hjx:Pl.sF A.D.sz (Pl.aY A.D f N (Pl.Jo A.S)) (Pl.aC (Vs k b nn fl cs A.S i)).length<A.D.cnt:=by
  have h7:=Pl.mK (D:=A.D) (f:=f) (N:=N) (by rw [h.di.hcnt]; exact LP _) (Pl.Xv A.S)
  have h8:((N*A.D.sz:Nat):Int)=(N:Int)*(A.D.sz:Int):=Int.natCast_mul N A.D.sz
  have h9:=hc.hj
  rw [h.di.hsz] at h8
  have hz:=h.di.hsz
  rw [← hz] at h9 h8
  have hf:=Pl.qL (sz:=A.D.sz) (a:=Pl.aY A.D f N (Pl.Jo A.S)) (b:=(Pl.aC (Vs k b nn fl cs A.S i)).length) h.di.ok.sz
  exact Nat.lt_of_mul_lt_mul_right (a:=A.D.sz) Ta
 generalize hR:Vs k b nn fl cs A.S i=R at *
 generalize hJ:Pl.aP A.D f N b A.S R=J at *
 have fb:=Good.ID (A:=⟨J.2.1,J.2.2,A.st,A.nx,A.sg⟩) hc j3
 generalize hW:Pl.ei (Fi nn b fl cs i) (Pl.JB b cs i)=W at *
 generalize hd:Pl.JB b cs i=d at *
 simp only at fb
 obtain ⟨w1,w2,w3⟩:=xi (a:=d.to.toNat) (bs:=W) j3 (by
  have:=Good.on (A:=⟨J.2.1,J.2.2,A.st,A.nx,A.sg⟩) hc j3 (a:=d.to) (n:=(W.length:Int)) h2 Ta Ta
  rw [show ((d.to.toNat:Nat):Int)=d.to by omega]
  exact this) Ta
 have e0:A.put J d.to W=(0,⟨(Pl.dB J.2.1 d.to.toNat W).2,J.2.2,1,A.nx+1,false⟩):=by
  unfold Pl.Ap.put
  rw [LH (fun h=>h j1),LH (fun h=>h w1)]
 rw [e0]
 have aX:d.to.toNat+W.length≤f*sz:=by have:=hc.hM; omega
 have key:∀ q o,Pl.QX J.2.1 f N q o→Pl.QX (Pl.dB J.2.1 d.to.toNat W).2 f N q o:=fun q o hs=>Bb (by rw [w2.hsz,j3.hsz]) hs fun j hj=>by
  rw [j3.hsz] at hj
  rw [w3,LH Ta]
 refine ⟨j2,key _ _ s1,fun q o hq bO hs=>key _ _ (s2 q o hq bO hs),fun w p h0 sK FE=>?_⟩
 rw [ee w p,ja w p Ta sK hjx]
 have xX:=h.di.hcnt
 have hz:d.to.toNat/sz<f+2*N:=by
  refine (Nat.div_lt_iff_lt_mul hc.s1).2 ?_
  have:W.length≠0:=fun e=>by rw [e] at FE; cases FE
  omega
 have ha:=IF (a:=d.to.toNat) (bs:=W) (w:=w-1) (p:=p) j3.dn (by rw [j3.hsz]; exact FE) (by rw [j3.hsz,j3.hcnt]; unfold Pl.sF; split <;> omega) j3.wr Ta
 unfold Pl.Ap.put
 simp only
 rw [LH (fun h=>h j1),ha]
 simp only
 rw [LH (fun h=>h w1),show w-1-1=w-2 by omega]
theorem xl(hc:dC sz f N b k oo nn fl cs)(hk:0≤k∧k≤18446744073709551615)(h:Good sz f N b oo nn fl cs c8 i A)(hi:i<(Pl.Qd b cs).length)(hb:((f+2*N:Nat):Int)≤c8)(zW:1≤c8)(hn:Pl.sN sz (Pl.aY A.D f N (Pl.Jo A.S)) (Pl.aC (Vs k b nn fl cs A.S i)).length=1)(hx:Pl.sF sz (Pl.aY A.D f N (Pl.Jo A.S)) (Pl.aC (Vs k b nn fl cs A.S i)).length<f+2*N) :
 ∃ E:Pl.Dv,Pl.Ap.exec f N b k cs ⟨arm A.D 0 1,A.S,A.st,A.nx,A.sg⟩=(18,⟨E,A.S,A.st,A.nx,A.sg⟩)∧E.ca=[]∧Pl.okDv E∧E.sz=sz∧E.cnt=f+2*N∧E.sW=A.D.sW+1∧E.dk=(Pl.aP A.D f N b A.S (Vs k b nn fl cs A.S i)).2.1.dk:=by
 obtain ⟨r1,r2,r3⟩:=rR hc hk h hi
 rw [rS hc h hi]
 generalize hR:Vs k b nn fl cs A.S i=R at *
 have hsW:=h.di.sW
 have aq:=Pl.Zu (Pl.aY A.D f N (Pl.Jo A.S)) (Pl.aC R) 1 (Pl.sF A.D.sz (Pl.aY A.D f N (Pl.Jo A.S)) (Pl.aC R).length) (arm A.D 0 1) (Pl.lZ h.di.ok (n:=0) (k:=1) (by unfold Pl.aA; omega) Ta) (by rw [show (arm A.D 0 1).ca=A.D.ca from rfl,h.di.ca]; decide)
 have KB:=Ba (a:=Pl.aY A.D f N (Pl.Jo A.S)) (bs:=Pl.aC R) (p:=1) (i:=Pl.sF A.D.sz (Pl.aY A.D f N (Pl.Jo A.S)) (Pl.aC R).length) h.di.dn (by rw [h.di.hsz,h.di.hcnt]; exact hx)
 have Od:=Fg (a:=Pl.aY A.D f N (Pl.Jo A.S)) (bs:=Pl.aC R) (i:=Pl.sF A.D.sz (Pl.aY A.D f N (Pl.Jo A.S)) (Pl.aC R).length) h.di.dn (by rw [h.di.hsz,h.di.hcnt]; exact hx) h.di.wr
 rw [KB] at aq
 have hja:∀ D,D.sz=sz→Pl.aP D f N b A.S R=Pl.qO D f N A.S R:=fun D _=>LI ⟨r2,r3⟩
 have FE:Pl.sN A.D.sz (Pl.aY A.D f N (Pl.Jo A.S)) (Pl.aC R).length=1:=by rw [h.di.hsz]; exact hn
 have hjw:∀ D:Pl.Dv,D.sz=A.D.sz→Pl.nN D f N A.S R=Pl.cg (Pl.aY A.D f N (Pl.Jo A.S)) (Pl.aC R) 1 (Pl.sF A.D.sz (Pl.aY A.D f N (Pl.Jo A.S)) (Pl.aC R).length) D:=fun D hD=>by
  have qW:Pl.aY D f N (Pl.Jo A.S)=Pl.aY A.D f N (Pl.Jo A.S):=by unfold Pl.aY; rw [hD]
  unfold Pl.nN
  rw [hD,qW,FE]
 rw [hja (arm A.D 0 1) h.di.hsz,hja A.D h.di.hsz]
 unfold Pl.qO
 rw [hjw (arm A.D 0 1) rfl,hjw A.D rfl,KB,Od]
 refine ⟨_,rfl,rfl,aq.1,h.di.hsz,h.di.hcnt,?_,?_⟩
 · show Pl.inc A.D.sW=_
   unfold Pl.inc
   exact Pl.I7 Ta Ta
 · have C0:=h.di.ca
   have e1:Pl.QS (Pl.VB A.D ((Pl.sF A.D.sz (Pl.aY A.D f N (Pl.Jo A.S)) (Pl.aC R).length:Nat):Int) (Pl.VK A.D.sz (Pl.ej A.D ((Pl.sF A.D.sz (Pl.aY A.D f N (Pl.Jo A.S)) (Pl.aC R).length:Nat):Int)) (Pl.aY A.D f N (Pl.Jo A.S)) (Pl.aC R) (Pl.sF A.D.sz (Pl.aY A.D f N (Pl.Jo A.S)) (Pl.aC R).length)))=0:=by
    unfold Pl.QS
    rw [show (Pl.VB A.D _ _).dn=A.D.dn from rfl,h.di.dn]
    rfl
   simp only
   rw [LI (show (18:Int)≠0 by decide),LH (show ¬ (0:Int)≠0 from fun h=>h rfl),LH (fun h=>h e1)]
   unfold Pl.fe
   rw [LH (by rw [show (Pl.VB A.D _ _).dn=A.D.dn from rfl,h.di.dn]; decide)]
   show Pl.dr A.D.sz (Pl.gG 1) 0 A.D.dk (A.D.ca++[_])=Pl.dr A.D.sz (fun _=>true) 0 A.D.dk (A.D.ca++[_])
   rw [C0,L4]
   have Cg:Pl.gG 1 0=true:=by decide
   simp only [Pl.dr,Cg]
end
theorem vh{E:Tl}{a b:Int}(h:Pl.Path E a b):∃ c,(a,c)∈E:=by
 induction h with
 | one h=>exact ⟨_,h⟩
 | more _ _ ih=>exact ih
theorem Vp{E:Tl}{ss:Tj}{e:Int×Int}:e∈Pl.wo E ss↔e∈E∧e.1∉ss∧e.2∉ss:=by
 unfold Pl.wo
 simp only [L5,LJ,LO]
def ZN(E:Tl):Prop:=∀ e,e∈E↔e=((0:Int),(1:Int))∨e=((0:Int),(2:Int))∨e=((2:Int),(0:Int))
theorem IG{E:Tl}(hE:ZN E){evd:Tj}(h:Pl.Evs E [3,0,3] [1] evd):evd=[]∨evd=[0]:=by
 induction h with
 | nil=>exact .inl rfl
 | step h hc hl ih=>
  rename_i ss l
  rcases ih with rfl | rfl
  · right
    have key:∀ v,v∈l↔v=0∨v=2:=fun v=>by
     rw [hc.2 v]
     have h02:((0:Int),(2:Int))∈Pl.wo E []:=Vp.2 ⟨(hE _).2 Tc,Tc,Tc⟩
     have UR:((2:Int),(0:Int))∈Pl.wo E []:=Vp.2 ⟨(hE _).2 Tc,Tc,Tc⟩
     constructor
     · intro hp
       obtain ⟨c,hc⟩:=vh hp
       rcases (hE _).1 (Vp.1 hc).1 with h | h | h <;> cases h <;> simp
     · rintro (rfl | rfl)
       · exact .more (.one h02) UR
       · exact .more (.one UR) h02
    have mR:l=[0,2]:=by
     have hs:=hc.1
     have k0:=(key 0).2 (.inl rfl)
     have k2:=(key 2).2 (.inr rfl)
     rcases l with _ | ⟨a,_ | ⟨b,_ | ⟨c,r⟩⟩⟩
     · cases k0
     · simp only [Lf] at k0 k2; omega
     · have ka:=(key a).1 Tc
       have kb:=(key b).1 Tc
       have h1:a<b:=by simpa using hs
       rw [show a=0 by omega,show b=2 by omega]
     · have ka:=(key a).1 Tc
       have kb:=(key b).1 Tc
       have kc:=(key c).1 Tc
       have h1:a<b:=(List.pairwise_cons.1 hs).1 b Tc
       have h2:b<c:=(List.pairwise_cons.1 (List.pairwise_cons.1 hs).2).1 c Tc
       omega
    rw [mR]
    decide
  · exfalso
    have:l=[]:=List.eq_nil_iff_forall_not_mem.2 fun v hv=>by
     obtain ⟨c,hc⟩:=vh ((hc.2 v).1 hv)
     obtain ⟨h1,h2,h3⟩:=Vp.1 hc
     rcases (hE _).1 h1 with h | h | h <;> cases h <;> simp at h2 h3
    rw [this] at hl
    cases hl
theorem IH{cs:List aa}{ds:List Pl.Cm}(ef:cs.map aa.cm=([⟨1,0,3,3,[]⟩,⟨2,3,0,0,[120]⟩,⟨1,4,0,3,[]⟩]:List Pl.Cm))(ha:Pl.ET ([97,98,99,100,101,102]:Th) cs ds):ds=([⟨1,4,0,3,[]⟩,⟨2,0,0,0,[100,101,102]⟩,⟨2,3,0,0,[120]⟩]:List Pl.Cm):=by
 obtain ⟨E,evd,ord,ls,rfl,hp,hs,hE,wW,fh,-,-⟩:=ha
 rcases cs with _ | ⟨c0,_ | ⟨c1,_ | ⟨c2,_ | ⟨c3,r⟩⟩⟩⟩
 · cases ef
 · simp at ef
 · simp at ef
 · simp only [Ka,List.map_nil,List.cons.injEq,and_true] at ef
   obtain ⟨e0,e1,e2⟩:=ef
   have k0:c0.k=1:=LM Pl.Cm.k e0
   have k1:c1.k=2:=LM Pl.Cm.k e1
   have k2:c2.k=1:=LM Pl.Cm.k e2
   have l0:c0.ln=3:=LM Pl.Cm.ln e0
   have l1:c1.ln=0:=LM Pl.Cm.ln e1
   have l2:c2.ln=3:=LM Pl.Cm.ln e2
   have hl:Pl.Xa [c0,c1,c2] [c0,c1,c2].length=[1]:=by
    show ([(0:Int),1,2].filter fun i=>decide (([c0,c1,c2][i.toNat]?).map aa.k=some 2))=[1]
    simp [k0,k1,k2]
   have kM:∀ a b:aa,Pl.cf a b=(decide (a.cm.k=1)&&(Pl.aL b.cm.to (Pl.aw b.cm) a.cm.fr a.cm.ln).isSome):=fun _ _=>rfl
   have OK:ZN E:=fun e=>by
    rw [hE]
    constructor
    · rintro ⟨i,j,a,b,rfl,hi,bO,h1,h2,h3⟩
      have hj:j<3:=(Le.1 h2).1
      have hi:i<3:=hi
      rw [kM] at h3
      rcases (show i=0∨i=1∨i=2 by omega) with rfl | rfl | rfl <;> rcases (show j=0∨j=1∨j=2 by omega) with rfl | rfl | rfl <;> cases h1 <;> cases h2 <;> first | (exact absurd rfl bO) | (simp; done) | (exfalso; revert h3; rw [e0,e1]; decide) | (exfalso; revert h3; rw [e1,e0]; decide) | (exfalso; revert h3; rw [e1,e2]; decide) | (exfalso; revert h3; rw [e2,e1]; decide)
    · rintro (rfl | rfl | rfl)
      · exact ⟨0,1,c0,c1,rfl,Tc,Tb,rfl,rfl,by rw [kM,e0,e1]; decide⟩
      · exact ⟨0,2,c0,c2,rfl,Tc,Tb,rfl,rfl,by rw [kM,e0,e2]; decide⟩
      · exact ⟨2,0,c2,c0,rfl,Tc,Tb,rfl,rfl,by rw [kM,e2,e0]; decide⟩
   rw [hl] at wW fh
   rw [show [c0,c1,c2].map aa.ln=[3,0,3] by simp [l0,l1,l2]] at wW
   rcases IG OK wW with rfl | rfl
   · exfalso
     have h02:((0:Int),(2:Int))∈Pl.wo E ([1]++[]):=Vp.2 ⟨(OK _).2 Tc,Tc,Tc⟩
     have UR:((2:Int),(0:Int))∈Pl.wo E ([1]++[]):=Vp.2 ⟨(OK _).2 Tc,Tc,Tc⟩
     have:=fh.FH (fun e he=>by rcases (OK e).1 he with rfl | rfl | rfl <;> simp) (.more (.one h02) UR)
     cases this
   · have hm:∀ v,v∈ord↔v=2:=fun v=>by
      have:=fh.part v
      rw [show Pl.ea ([1]++[0]) [c0,c1,c2].length=[2] from rfl] at this
      simpa using this.symm
     have ho:ord=[2]:=by
      have hnd:=fh.nd
      have h2:=(hm 2).2 rfl
      rcases ord with _ | ⟨a,_ | ⟨b,r⟩⟩
      · cases h2
      · rw [(hm a).1 Tc]
      · have ha:=(hm a).1 Tc
        have hb:=(hm b).1 Tc
        rw [ha,hb] at hnd
        simp at hnd
     have e9:[c0,c1,c2].map aa.cm=([⟨1,0,3,3,[]⟩,⟨2,3,0,0,[120]⟩,⟨1,4,0,3,[]⟩]:List Pl.Cm):=by simp [e0,e1,e2]
     rw [e9] at hp ⊢
     have hf:((Pl.Vj ([97,98,99,100,101,102]:Th) [0] ([⟨1,0,3,3,[]⟩,⟨2,3,0,0,[120]⟩,⟨1,4,0,3,[]⟩]:List Pl.Cm) [c0,c1,c2].length).filter fun c=>decide (c.k=2))=([⟨2,0,0,0,[100,101,102]⟩,⟨2,3,0,0,[120]⟩]:List Pl.Cm):=by kernel_rfl
     rw [hf] at hp
     have hls:=List.Perm.eq_of_pairwise (le:=fun a b:Pl.Cm=>a.to≤b.to) (fun a b h1 h2 h3 h4=>by
      have g1:=hp.mem_iff.1 h1
      simp only [LR,Kd,or_false] at g1 h2
      rcases g1 with rfl | rfl <;> rcases h2 with rfl | rfl <;> first | rfl | (exfalso; revert h3 h4; decide)) hs Tc hp
     rw [hls,ho]
     rfl
 · simp at ef
theorem yW{f N:Nat}{b oo nn:Int}{nw:Th}{cs:List Pl.Cm}{A:Pl.Ap}(h:Pl.SidP f N b oo nn nw cs A)(w p:Int):Pl.SidP f N b oo nn nw cs ⟨arm A.D w p,A.S,A.st,A.nx,A.sg⟩:=⟨h.dn,h.sl,h.h2,h.hS,h.cl,h.nx,h.fo,h.fn,h.la,h.sg,h.hh⟩
section
variable {sz f N:Nat}{b k oo nn:Int}{fl:Th}{cs:List Pl.Cm}{c8:Int}{i:Nat}{A:Pl.Ap}
theorem nK(hc:dC sz f N b k oo nn fl cs)(h:Good sz f N b oo nn fl cs c8 i A)(hi:i<(Pl.Qd b cs).length)(cF:A.st≠2)(jW:A.sg=false)(w p:Int):Pl.Ap.step f N b k cs ⟨arm A.D w p,A.S,A.st,A.nx,A.sg⟩=Pl.Ap.exec f N b k cs ⟨arm A.D w p,A.S,A.st,A.nx,A.sg⟩:=by
 have hL:=hc.len
 have hx:=h.nx
 unfold Pl.Ap.step
 rw [LH cF,LH (by simp only; rw [jW]; decide),LH (by simp only; rw [hx,hL]; omega)]
theorem vj(hc:dC sz f N b k oo nn fl cs)(hk:0≤k∧k≤18446744073709551615)(h:Good sz f N b oo nn fl cs c8 i A)(hi:i<(Pl.Qd b cs).length)(hb:2*((f+2*N:Nat):Int)≤c8)(cF:A.st≠2)(jW:A.sg=false)(w p:Int)(hw:2≤w)
 (h1:Pl.sN sz (Pl.aY A.D f N (Pl.Jo A.S)) (Pl.aC (Vs k b nn fl cs A.S i)).length=1) (h2:Pl.sN sz (Pl.JB b cs i).to.toNat (Pl.ei (Fi nn b fl cs i) (Pl.JB b cs i)).length=1) :
 ∃ A1:Pl.Ap,Good sz f N b oo nn fl cs (c8-2*((f+2*N:Nat):Int)) (i+1) A1∧A1.st=1∧A1.sg=false∧A1.S=⟨IntKind.u64.wrap (A.S.nx+1),true,Vs k b nn fl cs A.S i⟩∧Pl.QX A1.D f N (Pl.Jo A.S) (some (Vs k b nn fl cs A.S i)) ∧
  ∀ n B c,Pl.RunTo (Pl.Ap.step f N b k cs) (Pl.SidP f N b oo nn (Pl.bQ fl cs nn.toNat) cs) n ⟨arm A1.D (w-2) p,A1.S,A1.st,A1.nx,A1.sg⟩ c B→Pl.RunTo (Pl.Ap.step f N b k cs) (Pl.SidP f N b oo nn (Pl.bQ fl cs nn.toNat) cs) (n+1) ⟨arm A.D w p,A.S,A.st,A.nx,A.sg⟩ c B:=by
 obtain ⟨g1,g2,g3,g4⟩:=p6 (k:=k) hc h hi hb
 obtain ⟨s1,s2,s3,s4⟩:=Bc hc hk h hi hb
 have e:=(nK hc h hi cF jW w p).trans (s4 w p hw h1 h2)
 have hs:=YP hc h Ta (fun h9=>by rw [jW] at h9; cases h9)
 refine ⟨_,g2,g3,g4,s1,s2,fun n B c hr=>?_⟩
 rw [g3,g4,g2.nx] at hr
 refine .next (yW hs w p) (by rw [e]) (by rw [e]; show (1:Int)≠2; decide) ?_
 rw [e,h.nx]
 exact hr
end
theorem ZO(x:Int)(h:0≤x∧x<18446744073709551616):IntKind.u64.wrap x=x:=by
 have e:IntKind.u64.wrap x=x%18446744073709551616:=by simp [IntKind.wrap,IntKind.signed,IntKind.bits]
 rw [e]
 omega
theorem rT{cs:List aa}{ds:List Pl.Cm}(ef:cs.map aa.cm=([⟨1,0,3,3,[]⟩,⟨2,3,0,0,[120]⟩,⟨1,4,0,3,[]⟩]:List Pl.Cm))(ha:Pl.ET ([97,98,99,100,101,102]:Th) cs ds):Pl.Ix 64 2 6 7 ([97,98,99,100,101,102]:Th) [(4,1)] 2 ds:=by
 have hv:Pl.VD 6 7 (cs.map aa.cm):=by rw [ef]; exact Fa
 have H5:=(rJ (o:=6) (f:=([97,98,99,100,101,102]:Th)) rfl hv ha).1
 have P3:=uV hv ha
 obtain rfl:=IH ef ha
 have hN:=K3 (b:=2) (fl:=([97,98,99,100,101,102]:Th)) (oo:=6) (nn:=7) rfl Tb Tb Tb H5 P3 Tb
 have hH:=yU (oo:=6) (nn:=7) (H:=Pl.hh (Pl.bu ([97,98,99,100,101,102]:Th)) (Pl.bu (Pl.bQ ([97,98,99,100,101,102]:Th) ([⟨1,4,0,3,[]⟩,⟨2,0,0,0,[100,101,102]⟩,⟨2,3,0,0,[120]⟩]:List Pl.Cm) (7:Int).toNat))) hN.few Tb
 obtain ⟨bN,hk⟩:∃ bN,Pl.KE (Pl.eU 6 7 (Pl.hh (Pl.bu ([97,98,99,100,101,102]:Th)) (Pl.bu (Pl.bQ ([97,98,99,100,101,102]:Th) ([⟨1,4,0,3,[]⟩,⟨2,0,0,0,[100,101,102]⟩,⟨2,3,0,0,[120]⟩]:List Pl.Cm) (7:Int).toNat))) ([⟨1,4,0,3,[]⟩,⟨2,0,0,0,[100,101,102]⟩,⟨2,3,0,0,[120]⟩]:List Pl.Cm))=bN:=⟨_,rfl⟩
 have Cg:0≤bN∧bN≤18446744073709551615:=by rw [← hk]; exact Pl.iR _ _ _
 have l1:Pl.X7 ((64:Nat):Int) 2 6 7=0:=by decide
 have l2:Pl.qv ((64:Nat):Int) 6 7=((1:Nat):Int):=by decide
 have l3:Pl.slot ((64:Nat):Int) 2=((1:Nat):Int):=by decide
 have hc:dC 64 1 1 2 bN 6 7 ([97,98,99,100,101,102]:Th) ([⟨1,4,0,3,[]⟩,⟨2,0,0,0,[100,101,102]⟩,⟨2,3,0,0,[120]⟩]:List Pl.Cm):=⟨hN,Tb,Tb,Tb,l3,Tb⟩
 have cz:=fun (n p:Int) hn hp=>vg (sz:=64) (f:=1) (N:=1) (fl:=([97,98,99,100,101,102]:Th)) (n:=n) (p:=p) Tb Tb Tb Tb bN hn hp
 have hL:(Pl.Qd 2 ([⟨1,4,0,3,[]⟩,⟨2,0,0,0,[100,101,102]⟩,⟨2,3,0,0,[120]⟩]:List Pl.Cm)).length=5:=by kernel_rfl
 have hLi:=hc.len
 rw [hL] at hLi
 obtain ⟨A,hA⟩:∃ A:Pl.Ap,A=⟨Pl.jR 64 3 ([97,98,99,100,101,102]:Th),⟨1,false,Pl.Fz⟩,0,0,false⟩:=⟨_,rfl⟩
 have aq:Pl.okDv (Pl.jR 64 3 ([97,98,99,100,101,102]:Th)):=Pl.qF Tb Tb Tb Tb
 have hg:Good 64 1 1 2 6 7 ([97,98,99,100,101,102]:Th) ([⟨1,4,0,3,[]⟩,⟨2,0,0,0,[100,101,102]⟩,⟨2,3,0,0,[120]⟩]:List Pl.Cm) 1000000 0 A:=by
  rw [hA]
  exact ⟨⟨aq,rfl,by show (-1:Int)<0; decide,rfl,rfl,rfl,by show (0:Int)≤0∧(0:Int)+1000000≤4611686018427387903; decide⟩,Te,rfl,⟨Tb,Tb⟩,LL _⟩
 have rl:∀ S i,(Pl.aC (Vs bN 2 7 ([97,98,99,100,101,102]:Th) ([⟨1,4,0,3,[]⟩,⟨2,0,0,0,[100,101,102]⟩,⟨2,3,0,0,[120]⟩]:List Pl.Cm) S i)).length=44+(Pl.ei (Fi 7 2 ([97,98,99,100,101,102]:Th) ([⟨1,4,0,3,[]⟩,⟨2,0,0,0,[100,101,102]⟩,⟨2,3,0,0,[120]⟩]:List Pl.Cm) i) (Pl.JB 2 ([⟨1,4,0,3,[]⟩,⟨2,0,0,0,[100,101,102]⟩,⟨2,3,0,0,[120]⟩]:List Pl.Cm) i)).length:=fun S i=>Pl.VC _
 have w0:(Pl.ei (Fi 7 2 ([97,98,99,100,101,102]:Th) ([⟨1,4,0,3,[]⟩,⟨2,0,0,0,[100,101,102]⟩,⟨2,3,0,0,[120]⟩]:List Pl.Cm) 0) (Pl.JB 2 ([⟨1,4,0,3,[]⟩,⟨2,0,0,0,[100,101,102]⟩,⟨2,3,0,0,[120]⟩]:List Pl.Cm) 0)).length=2:=by kernel_rfl
 have w1:(Pl.ei (Fi 7 2 ([97,98,99,100,101,102]:Th) ([⟨1,4,0,3,[]⟩,⟨2,0,0,0,[100,101,102]⟩,⟨2,3,0,0,[120]⟩]:List Pl.Cm) 1) (Pl.JB 2 ([⟨1,4,0,3,[]⟩,⟨2,0,0,0,[100,101,102]⟩,⟨2,3,0,0,[120]⟩]:List Pl.Cm) 1)).length=1:=by kernel_rfl
 have w2:(Pl.ei (Fi 7 2 ([97,98,99,100,101,102]:Th) ([⟨1,4,0,3,[]⟩,⟨2,0,0,0,[100,101,102]⟩,⟨2,3,0,0,[120]⟩]:List Pl.Cm) 2) (Pl.JB 2 ([⟨1,4,0,3,[]⟩,⟨2,0,0,0,[100,101,102]⟩,⟨2,3,0,0,[120]⟩]:List Pl.Cm) 2)).length=2:=by kernel_rfl
 have t0:(Pl.JB 2 ([⟨1,4,0,3,[]⟩,⟨2,0,0,0,[100,101,102]⟩,⟨2,3,0,0,[120]⟩]:List Pl.Cm) 0).to.toNat=4:=by kernel_rfl
 have t1:(Pl.JB 2 ([⟨1,4,0,3,[]⟩,⟨2,0,0,0,[100,101,102]⟩,⟨2,3,0,0,[120]⟩]:List Pl.Cm) 1).to.toNat=6:=by kernel_rfl
 have Uy:∀ {S:Pl.Jn},(Vs bN 2 7 ([97,98,99,100,101,102]:Th) ([⟨1,4,0,3,[]⟩,⟨2,0,0,0,[100,101,102]⟩,⟨2,3,0,0,[120]⟩]:List Pl.Cm) S 2).bs.length=2:=fun {S}=>w2
 have c2:(2:Int)=Pl.aw (Pl.JB 2 ([⟨1,4,0,3,[]⟩,⟨2,0,0,0,[100,101,102]⟩,⟨2,3,0,0,[120]⟩]:List Pl.Cm) 2):=by kernel_rfl
 have II:∀ {D:Pl.Dv} {s:Nat},D.sz=64→Pl.aY D 1 1 s=(1+s*1)*64:=fun h=>by unfold Pl.aY; rw [h]
 have sA:A.S.nx=1:=by rw [hA]
 obtain ⟨A1,g1,a1,b1,S1,-,n1⟩:=vj hc Cg hg Ta Tb (by rw [hA]; decide) (by rw [hA]) 4 1 Tb (by rw [rl,w0,II hg.di.hsz,show Pl.Jo A.S=1 by unfold Pl.Jo; rw [sA]; rfl]; rfl) (by rw [w0,t0]; rfl)
 have s1:A1.S.nx=2:=by rw [S1]; simp only; rw [sA,ZO _ Tb]; rfl
 have j1:Pl.Jo A1.S=0:=by unfold Pl.Jo; rw [s1]; rfl
 obtain ⟨A2,g2,a2,b2,S2,ZP,n2⟩:=vj hc Cg g1 Ta Tb Ta b1 2 1 Tb (by rw [rl,w1,II g1.di.hsz,j1]; rfl) (by rw [w1,t1]; rfl)
 have s2:A2.S.nx=3:=by rw [S2]; simp only; rw [s1,ZO _ Tb]; rfl
 have j2:Pl.Jo A2.S=1:=by unfold Pl.Jo; rw [s2]; rfl
 obtain ⟨E,e1,e2,e3,e4,e5,e6,e7⟩:=xl hc Cg g2 Ta Tb Tb (by rw [rl,w2,II g2.di.hsz,j2]; rfl) (by rw [rl,w2,II g2.di.hsz,j2]; decide)
 have f1:=Pl.RunTo.stop (st:=Pl.Ap.step 1 1 2 bN ([⟨1,4,0,3,[]⟩,⟨2,0,0,0,[100,101,102]⟩,⟨2,3,0,0,[120]⟩]:List Pl.Cm)) (yW (YP hc g2 Ta (fun h9=>by rw [b2] at h9; cases h9)) 0 1) (.inl (by rw [nK hc g2 Ta Ta b2,e1]; show (18:Int)≠0; decide))
 rw [nK hc g2 Ta Ta b2,e1] at f1
 have f0:=n1 _ _ _ (n2 _ _ _ f1)
 rw [hA] at f0
 obtain ⟨r1,r2,r3⟩:=rR hc Cg g2 Ta
 obtain ⟨q1,q2⟩:=qc (S:=A2.S) g2.di hc.hj r2 r1 r3 Tb
 rw [j2] at q1 q2
 rw [j1] at ZP
 have q0:=q2 0 _ Tb Tb ZP
 have hjd:=kG (S:=A2.S) g2.di (LP _) hc.hj r2 r3 Tb
 have mS:(Pl.jQ (Pl.pj E) (-1) 0).dk=(Pl.aP A2.D 1 1 2 A2.S (Vs bN 2 7 ([97,98,99,100,101,102]:Th) ([⟨1,4,0,3,[]⟩,⟨2,0,0,0,[100,101,102]⟩,⟨2,3,0,0,[120]⟩]:List Pl.Cm) A2.S 2)).2.1.dk:=by rw [← e7]; exact Pl.Xl _ _ _ _
 have hsz:(Pl.jQ (Pl.pj E) (-1) 0).sz=(Pl.aP A2.D 1 1 2 A2.S (Vs bN 2 7 ([97,98,99,100,101,102]:Th) ([⟨1,4,0,3,[]⟩,⟨2,0,0,0,[100,101,102]⟩,⟨2,3,0,0,[120]⟩]:List Pl.Cm) A2.S 2)).2.1.sz:=by rw [hjd.2.2.1.hsz]; exact e4
 have Ex:Pl.okDv (Pl.jQ (Pl.pj E) (-1) 0):=Pl.lZ (Pl.mj e3) (by unfold Pl.aA; omega) Ta
 have bg:(Pl.jQ (Pl.pj E) (-1) 0).cnt=3:=e5
 have Fu:=Pl.pF Ex rfl rfl (LP 1) (by rw [bg]; decide) Tb (q0.eq mS hsz)
 have bZ:=Pl.pF Ex rfl rfl (LP 1) (by rw [bg]; decide) Tb (q1.eq mS hsz)
 have ub:=Pl.C1 (k:=bN) Fu bZ rfl rfl (by show A1.S.nx<A2.S.nx; omega)
 obtain ⟨S3,ZQ⟩:∃ S3:Pl.Jn,S3=Pl.bG (Pl.jQ (Pl.pj E) (-1) 0) 1 1 bN:=⟨_,rfl⟩
 rw [← ZQ] at ub
 have O6:Pl.dG S3=Vs bN 2 7 ([97,98,99,100,101,102]:Th) ([⟨1,4,0,3,[]⟩,⟨2,0,0,0,[100,101,102]⟩,⟨2,3,0,0,[120]⟩]:List Pl.Cm) A2.S 2:=by rw [ub]; rfl
 have hcu:(Pl.dG S3).cu=2:=by rw [O6]; rfl
 have hnA:Pl.VL (Pl.jQ (Pl.pj E) (-1) 0) S3 (Pl.JF 2 ([⟨1,4,0,3,[]⟩,⟨2,0,0,0,[100,101,102]⟩,⟨2,3,0,0,[120]⟩]:List Pl.Cm))=⟨Pl.jQ (Pl.pj E) (-1) 0,S3,1,2,true⟩:=by
  unfold Pl.VL
  rw [LH (by rw [ub]; intro h; cases h),hcu,hLi,LH Tb]
 have hsW:=g2.di.sW
 have g3:Good 64 1 1 2 6 7 ([97,98,99,100,101,102]:Th) ([⟨1,4,0,3,[]⟩,⟨2,0,0,0,[100,101,102]⟩,⟨2,3,0,0,[120]⟩]:List Pl.Cm) 900000 2 ⟨Pl.jQ (Pl.pj E) (-1) 0,S3,1,2,true⟩:=by
  refine ⟨⟨Ex,rfl,by show max (-1:Int) (-1)<0; decide,rfl,e4,e5,?_⟩,?_,rfl,?_,?_⟩
  · show 0≤E.sW∧E.sW+900000≤4611686018427387903
    rw [e6]
    omega
  · simp only
    rw [mS]
    refine (rP fun j hj=>hjd.2.2.2 j (Nat.lt_of_lt_of_le hj Tb)).trans g2.fi
  · simp only
    rw [ub]
    exact iJ _
  · simp only
    rw [ub]
    show (Vs bN 2 7 ([97,98,99,100,101,102]:Th) ([⟨1,4,0,3,[]⟩,⟨2,0,0,0,[100,101,102]⟩,⟨2,3,0,0,[120]⟩]:List Pl.Cm) A2.S 2).bs.length≤1000000
    rw [Uy]
    decide
 obtain ⟨n,B,h1,h2,h3⟩:=xk hc (m:=2) (by rw [hL]) g3 (by show (1:Int)≠2; decide) rfl (by simp only; rw [O6]; rfl) (by simp only; rw [O6]; rfl) Tb
 have hbm:max (4:Int) (-1)=4:=by decide
 refine ⟨1,1,bN,Pl.pj B.D,hk,Cg,hH,hN,l1,l2,l3,Tb,Tb,.more (E:=Pl.pj E) ?_ (.last ?_ Tb),?_,?_⟩
 · refine ⟨rfl,l1,l2,l3,Tb,?_,fun h=>?_,fun _=>by kernel_rfl,⟨0+1+1,⟨E,A2.S,A2.st,A2.nx,A2.sg⟩,?_,rfl,by show E.ca.length≤_; rw [e2]; exact LL _⟩⟩
   · rw [cz 4 1 (by unfold Pl.aA; omega) Ta]; exact LL _
   · rw [cz 4 1 (by unfold Pl.aA; omega) Ta] at h; cases h
   · rw [cz 4 1 (by unfold Pl.aA; omega) Ta]
     exact f0
 · have hz6:(Pl.jQ (Pl.pj E) (-1) 0).sz=64:=e4
   refine ⟨rfl,by rw [hz6]; exact l1,by rw [hz6]; exact l2,by rw [hz6]; exact l3,by rw [bg]; decide,?_,fun _=>?_,fun h=>?_,⟨n,B,?_,rfl,by rw [h2.ca]; exact LL _⟩⟩
   · rw [← ZQ,ub]
     show (Vs bN 2 7 ([97,98,99,100,101,102]:Th) ([⟨1,4,0,3,[]⟩,⟨2,0,0,0,[100,101,102]⟩,⟨2,3,0,0,[120]⟩]:List Pl.Cm) A2.S 2).bs.length≤1000000
     rw [Uy]
     decide
   · rw [← ZQ,O6]
     refine ⟨⟨by show (0:Int)≤2; decide,by rw [hLi]; show (2:Int)<5; decide⟩,rfl,?_⟩
     show ((Vs bN 2 7 ([97,98,99,100,101,102]:Th) ([⟨1,4,0,3,[]⟩,⟨2,0,0,0,[100,101,102]⟩,⟨2,3,0,0,[120]⟩]:List Pl.Cm) A2.S 2).bs.length:Int)=Pl.aw (Pl.JB 2 ([⟨1,4,0,3,[]⟩,⟨2,0,0,0,[100,101,102]⟩,⟨2,3,0,0,[120]⟩]:List Pl.Cm) 2)
     rw [Uy,← c2]
     rfl
   · rw [← ZQ,hnA] at h
     cases h
   · rw [← ZQ,hnA]
     exact h1
 · show (Pl.dr _ _ _ _ _).take _=_
   rw [Pl.Xl,← xj hc,← h3,List.take_take]
   rfl
 · show _<(Pl.dr _ _ _ _ _).length
   rw [Pl.Xl,h2.ok.len,h2.hcnt,h2.hsz]
   decide
theorem rbF{b:Bool}(h:¬ (bif b then (0:Int) else 1)=0):b=false:=by
 cases b
 · rfl
 · exact absurd rfl h
theorem rbv{f:Th}{oo nn sz bd mo:Int}{cs:List aa}(h:(decide ((f.length:Int)>300)||!(bif (decide ((cs.length:Int)>20)||decide (oo>300)||decide (nn>300)||!(cs.all (fun c=>decide (c.d.bs.length≤300))&&decide (cs.length≤40))||!Pl.mL oo nn (cs.map aa.cm)||decide (bd>300)) then false else (Pl.valid 0 nn&&(decide (bd<1)||gX bd cs)))||!((cs.all (fun c=>decide (c.d.bs.length≤300))&&decide (cs.length≤40))&&Pl.mL oo nn (cs.map aa.cm)&&decide (oo=f.length)&&decide (nn≤3000))||decide (bd<1)||decide (sz<1)||decide (sz>1000)||decide (mo<0)||decide (mo>100))=false):Pl.VD oo nn (cs.map aa.cm)∧cs.length≤20:=by
 rw [LS,LS,LS,LS,LS,LS,LS] at h
 obtain ⟨⟨⟨⟨⟨⟨⟨a1,a2⟩,a3⟩,a4⟩,a5⟩,a6⟩,a7⟩,a8⟩:=h
 rw [Bool.not_eq_false'] at a2 a3
 simp only [bA,dT] at a3
 exact ⟨Pl.qP.1 a3.1.1.2,(smb a2).1⟩
theorem yX:∀ (xs ys:Th) (i:Nat),i<Pl.kF xs ys→xs[i]?=ys[i]?
 | [],ys,i,h=>by cases ys <;> simp [Pl.kF] at h
 | x::xs,[],i,h=>by simp [Pl.kF] at h
 | x::xs,y::ys,i,h=>by
  unfold Pl.kF at h
  split at h
  · rename_i e
    cases i with
    | zero=>rw [e]; rfl
    | succ i=>exact yX xs ys i Ta
  · omega
theorem IJ{f bs:Th}{k:Int}(h:0≤(Pl.fx f k bs).1):1≤(Pl.fx f k bs).2∧(Pl.fx f k bs).2≤bs.length∧(Pl.fx f k bs).1+(Pl.fx f k bs).2≤f.length∧∀ i:Nat,(i:Int)<(Pl.fx f k bs).2→f[(Pl.fx f k bs).1.toNat+i]?=bs[i]?:=by
 obtain ⟨h1,h2,h3,h4⟩:=yQ h
 rw [h3] at h
 obtain ⟨kn,rfl⟩:∃ n:Nat,k=n:=⟨k.toNat,Ta⟩
 rw [h3,h4]
 simp only [LD] at *
 have hl:(bs.take kn).length=kn:=by rw [Lg]; omega
 rcases Lib.index_spec f (bs.take kn) with ⟨e,-⟩ | ⟨q,e,hq,ho,-⟩
 · omega
 rw [e]
 simp only [LD]
 have hr:q+kn≤f.length:=by
  rcases Lib.occAt_room ho with h9 | h9
  · omega
  · rw [h9] at hl; simp at hl; omega
 have hp:bs.take kn=(f.drop q).take kn:=by
  have:=List.prefix_iff_eq_take.1 (List.isPrefixOf_iff_prefix.1 ho)
  rw [hl] at this
  exact this
 have hc:=xf (bs.drop kn) (f.drop (q+kn))
 rw [Lm,Lm] at hc
 refine ⟨Ta,Ta,Ta,fun i hi=>?_⟩
 by_cases hik:i<kn
 · have:=LM (fun l=>l[i]?) hp
   simp only [LF,LI hik,Kc] at this
   exact this.symm
 · have:=yX (bs.drop kn) (f.drop (q+kn)) (i-kn) Ta
   rw [Kc,Kc,show kn+(i-kn)=i by omega,show q+kn+(i-kn)=q+i by omega] at this
   exact this.symm
def Pw(f g:Th):Nat→List Pl.Cm→Prop
 | p,[]=>g.length≤p
 | p,c::r=>c.to=(p:Int)∧Pl.single f.length g.length c=0∧(∀ i:Nat,Pl.hasB c i=true→Pl.de f c i=g[i]?)∧Pw f g (p+(Pl.aw c).toNat) r
theorem yY{f g:Th}:∀ (cs:List Pl.Cm) (p:Nat),p≤g.length→Pw f g p cs→(∀ c∈cs,(p:Int)≤c.to∧Pl.single f.length g.length c=0∧∀ i:Nat,Pl.hasB c i=true→Pl.de f c i=g[i]?) ∧
 (∀ (i j:Nat) ci cj,j<i→cs[i]?=some ci→cs[j]?=some cj→Pl.dj ci cj)∧(∀ x:Int,(p:Int)≤x→x<g.length→∃ c∈cs,Pl.hasB c x=true)∧p+cs.length≤g.length
 | [],p,hp,h=>⟨fun _ h=>(by cases h),fun i j ci cj _ h=>(by simp at h),fun x h1 h2=>(by have:g.length≤p:=h; omega),hp⟩
 | c::r,p,hp,⟨h1,h2,h3,h4⟩=>by
  obtain ⟨k1,-,k3⟩:=Pl.Jw h2
  have k4:=Pl.Jl k1
  obtain ⟨g1,g2,g3,g4⟩:=yY r _ Ta h4
  refine ⟨fun d hd=>?_,fun i j ci cj vA hi hj=>?_,fun x nL BR=>?_,by simp only [Li]; omega⟩
  · rcases LR.1 hd with rfl | hd
    · exact ⟨Ta,h2,h3⟩
    · obtain ⟨e1,e2⟩:=g1 d hd
      exact ⟨Ta,e2⟩
  · obtain ⟨i,rfl⟩:∃ m,i=m+1:=⟨i-1,Ta⟩
    rw [LW] at hi
    cases j with
    | zero=>
     cases hj
     right
     have:=(g1 ci (Ld hi)).1
     omega
    | succ j=>exact g2 i j ci cj Ta hi hj
  · by_cases h9:x<p+Pl.aw c
    · exact ⟨c,Lo,Pl.Qm.2 Ta⟩
    · obtain ⟨d,hd,e⟩:=g3 x Ta BR
      exact ⟨d,LX _ hd,e⟩
theorem rU{f g:Th}{p fr:Nat}{r:List Pl.Cm}(h:Pw f g p r)(h1:fr≤p)(h2:p≤g.length)(hl:g.length≤1000000):Pw f g fr (Pl.E8 g p fr++r):=by
 rw [Pr]
 split
 · rename_i h3
   have cO:((g.drop fr).take (p-fr)).length=p-fr:=by rw [Lg,Lm]; omega
   have bL:Pl.aw ⟨2,fr,0,0,(g.drop fr).take (p-fr)⟩=((p-fr:Nat):Int):=by
    show (((g.drop fr).take (p-fr)).length:Int)=_
    rw [cO]
   have b6:Pl.av ⟨2,fr,0,0,(g.drop fr).take (p-fr)⟩=0:=Pl.lM (by rw [cO]; omega)
   refine ⟨rfl,?_,fun i hi=>?_,?_⟩
   · unfold Pl.single
     rw [LH (fun h=>h b6),LH (fun h=>absurd h.1 (show ¬ (2:Int)=1 by decide)),bL,LH Td]
   · have h4:=Pl.Qm.1 hi
     rw [bL] at h4
     simp only at h4
     unfold Pl.de
     rw [LH (show ¬ (2:Int)=1 by decide)]
     simp only
     rw [show ((i:Int)-fr).toNat=i-fr by omega,LF,LI Ta,Kc,show fr+(i-fr)=i by omega]
   · rw [bL,LD,show fr+(p-fr)=p by omega]
     exact h
 · rw [show fr=p by omega]
   exact h
theorem xm{f g:Th}{k:Int}(hf:f.length≤1000000)(hl:g.length≤1000000):∀ n p fr:Nat,fr≤p→p≤g.length→g.length≤p+n→Pw f g fr (Pl.jx f g k n p fr)
 | 0,p,fr,h1,h2,h3=>by
  have:=rU (f:=f) (r:=[]) (show Pw f g p [] from (by omega:g.length≤p)) h1 h2 hl
  rw [Lq] at this
  exact this
 | n+1,p,fr,h1,h2,h3=>by
  unfold Pl.jx
  split
  · rename_i hp
    split
    · exact xm hf hl n (p+1) fr Ta Ta Ta
    · rename_i hm
      obtain ⟨m1,m2,m3,m4⟩:=IJ (f:=f) (k:=k) (bs:=g.drop p) Ta
      rw [Lm] at m2
      generalize Pl.fx f k (g.drop p)=M at *
      refine rU ⟨rfl,?_,fun i hi=>?_,xm hf hl n _ _ (LP _) ?_ ?_⟩ h1 h2 hl
      · unfold Pl.single
        rw [LH (fun h=>h (Pl.lL Ta)),LH Td,LH (by show ¬ (g.length:Int)<(p:Int)+M.2; omega)]
      · have h4:=Pl.Qm.1 hi
        have h5:(p:Int)≤i∧(i:Int)<p+M.2:=h4
        unfold Pl.de
        rw [LI rfl]
        simp only
        have:=m4 (i-p) Ta
        rw [Kc,show p+(i-p)=i by omega] at this
        rw [← this]
        congr 1
        omega
      · show p+M.2.toNat≤g.length; omega
      · show g.length≤p+M.2.toNat+n; omega
  · have:=rU (f:=f) (r:=[]) (show Pw f g p [] from (by omega:g.length≤p)) h1 h2 hl
    rw [Lq] at this
    exact this
theorem Px{f g:Th}{k:Int}(hf:f.length≤1000000)(hl:g.length≤1000000):Pl.VD f.length g.length (Pl.jx f g k g.length 0 0)∧Pl.bQ f (Pl.jx f g k g.length 0 0) g.length=g∧(Pl.jx f g k g.length 0 0).length≤g.length:=by
 have h:=xm (k:=k) hf hl g.length 0 0 (LP _) (LL _) Ta
 generalize Pl.jx f g k g.length 0 0=cs at *
 obtain ⟨h1,h2,h3,h4⟩:=yY cs 0 (LL _) h
 refine ⟨⟨Ta,fun c hc=>(h1 c hc).2.1,h2,h3⟩,Kb fun i=>?_,Ta⟩
 unfold Pl.bQ
 rw [Lt]
 by_cases hi:i<g.length
 · rw [List.getElem?_range hi]
   obtain ⟨j,c,e1,e2,e3⟩:=Pl.gP (h3 i Ta Ta)
   have e4:=(h1 c (Ld e2)).2.2 i e3
   rw [La hi] at e4 ⊢
   exact LM some (Pl.qR e1 e2 e4)
 · rw [L8 (by rw [List.length_range]; omega),L8 Ta]
   rfl
theorem nU{p:Tg}{c:Nat}{fl:Th}{q:Tg}{cq:Nat}{cs:List aa}{ds:List Pl.Cm}{nn bd:Int}{NB:Th}{sn:Nat}{w0 w:World}{L B:Tf}(hx:cs.map aa.cm=ds)(hv:Pl.VD fl.length nn ds)(hN:Pl.bQ fl ds nn.toNat=NB)(hl:fl.length≤300∧nn≤300∧ds.length≤100)(hz:1≤sn∧sn≤1000∧1≤bd∧bd≤300)(bY:fl.length≤c)(eD:c≠0→∀ ad,p=some ad→ad.spot=none)
 (hm:Mem w0 w No L) (hf:Rd w p (fl.flatMap Jk)) (hq:Rd w q (cs.flatMap JM)) (hh:∀ y∈cs,bh B 5 y.d) (hs:∀ e,e∈B→e∈L) :
 C Tryz.prog 12 [.slice p fl.length c,.agg ⟨aZ fl.length nn (Pl.hh (Pl.bu fl) (Pl.bu NB)) q cs.length cq⟩,.int .i64 (sn:Int),.int .i64 bd,.slice none 0 0] w fun v w'=>∃ (ad:Addr) (cap g:Nat) (b:ag) (pa:Tg) (ca:Nat) (pk:Int),v=.tuple ⟨[.slice (some ad) NB.length cap,.agg ⟨[.slice pa 1 ca,.bool true,.int .i64 pk]⟩,.agg ⟨[.int .i64 0,.int .i64 0]⟩]⟩∧Acc 5 1 (some ad) NB.length cap (NB.flatMap Jk) g b∧Mem w w' No [(g,b)]:=by
 subst hx
 subst hN
 rw [Lj] at hl
 refine C.mono (pZ p c fl q cq cs _ nn _ sn bd none 0 [] 1 _ rfl hf ⟨bY,Ta⟩ eD hq hl.2.2 (fun y hy=>Ya hm (hh y hy) hs (hv.one y.cm (Ln.2 ⟨y,hy,rfl⟩))) (V5 hv Ta) hv rfl Ta Ta Ta rfl Tc Tc fun ds ha=>Pv rfl hl.1 hl.2.1 hl.2.2 hv Ta Ta ha) fun v w' hR=>?_
 obtain ⟨_,cap,g,b,pa,ca,pk,rfl,-,⟨ad,rfl⟩,ha,ae⟩:=hR
 exact ⟨ad,cap,g,b,pa,ca,pk,rfl,ha,ae⟩
theorem ZR(oo nn:Int)(H:Nat→UInt8)(q:Tg)(cq:Nat)(cs:List aa)(r:Tg)(cr:Nat)(f:Th)(sz bd mo:Int)(w0:World)(h1:Pl.aA oo)(h2:Pl.aA nn)(hs:Pl.aA sz)(hb:Pl.aA bd)(hq:Rd w0 q (cs.flatMap JM))(aq:∀ c∈cs,fE w0 c)(hf:Rd w0 r (f.flatMap Jk))(bY:f.length≤cr)(eD:cr≠0→∀ ad,r=some ad→ad.spot=none)(u:Int)(hu:0≤u∧u≤255)(Bw:Gz w0):C Tryz.prog 5 [.agg ⟨NY r f.length cr oo nn H q cs.length cq sz bd mo⟩,.int .u8 u] w0 fun v w'=>v=.bool true∧Ext No w0 w':=by
 refine aH Tryz.func5 fun κ _ Je Jc hm=>?_
 refine au 2 ?_
 refine bT hm fun m1 w hm=>?_
 refine au 6 ?_
 refine Ja rfl rfl (Jm (s:=71) (vs:=NY r f.length cr oo nn H _ cs.length cq sz bd mo) rfl ag28.h (hm.nt 0 rfl) rfl)<|cA rfl rfl rfl (As oo nn H q cq cs r cr f sz bd mo _ h1 h2 hs hb (hq.Jj hm.to) (fun c hc=>fE.mono (aq c hc) hm.to)) hm fun w hm=>au 3 ?_
 refine cd (fun ai=>?_) fun ai=>?_
 ·
  refine au 2 ?_
  refine cA rfl rfl rfl (xg _ (Bw.to hm.to) fun _ h9 _ h8=>rT h9 h8) hm fun w hm=>au 6 ?_
  exact ⟨rfl,hm.to⟩
 ·
  simp only [dF] at ai
  have hrx:=rbf (rbF ai)
  have hry:=rbv (rbF ai)
  have hv:=hry.1
  have pB:=hv.lens
  obtain ⟨sn,kz⟩:∃ x:Nat,sz=x:=⟨sz.toNat,Ta⟩
  subst kz
  have fO:1≤sn∧sn≤1000∧1≤bd∧bd≤300:=by omega
  clear ai
  refine au 7 ?_
  refine Ja rfl rfl (Jm (s:=67) (vs:=aZ oo nn H _ cs.length cq) rfl ag26.h (hm.nt 0 rfl) rfl)<|cT rfl rfl rfl (Fb oo nn H q cq cs r cr f _ (hq.Jj hm.to) Ta (fun c hc=>fE.mono (aq c hc) hm.to) (hf.Jj hm.to) hrx.1 hv Ta) fun v w hR=>?_
  obtain ⟨bU,nm,aB,cQ,cL,rfl,ay,ae⟩:=hR
  replace hm:=hm.Jt ae
  obtain rfl:=ay.J0
  have Bq:(((Pl.bQ f (cs.map aa.cm) nn.toNat).length:Nat):Int)=nn:=by rw [Yq]; omega
  have Fk:Pl.VD f.length (Pl.bQ f (cs.map aa.cm) nn.toNat).length (cs.map aa.cm):=by rw [Bq,← hrx.1]; exact hv
  have Fl:Pl.bQ f (cs.map aa.cm) (((Pl.bQ f (cs.map aa.cm) nn.toNat).length:Nat):Int).toNat=(Pl.bQ f (cs.map aa.cm) nn.toNat):=by rw [Bq]
  generalize (Pl.bQ f (cs.map aa.cm) nn.toNat)=g9 at *
  have Fm:f.length≤300∧((g9.length:Nat):Int)≤300∧(cs.map aa.cm).length≤100:=by rw [Lj]; omega
  refine au 3 ?_
  refine Xc (ι:=Addr×Nat×Nat×ag×Nat×Nat) rfl (ks:=[1,2,4,5]) Tn (fun x=>[(6,.slice (some x.1) g9.length x.2.1),(8,.pointer (some ⟨x.2.2.2.2.2,0,none⟩))]) (fun x w=>Mem w0 w No [(x.2.2.1,x.2.2.2.1),(x.2.2.2.2.2,.row 46 [.int .i64 0,.int .i64 0]),(cQ,cL),(m1,.row 28 (NY r f.length cr oo nn H q cs.length cq (sn:Int) bd mo))]∧Acc 5 1 (some x.1) g9.length x.2.1 (g9.flatMap Jk) x.2.2.1 x.2.2.2.1) ?_ (fun x w hM=>?_)
  ·
   refine JS (.pure 0 (.pure 1 (.pure 2 (.pure 3 (.pure 4 (.pure 5 (.pure 6 (.pure 7 (.pure 9 (.pure 10 (.pure 11 (.pure 12 (.act3 8 (.act3 13 (.pure 14 (.pure 15 (.pure 16 (.pure 17 (.act2 18 (.act 19 (.cut (.pure 20 (.act 21 (.act 22 .done))))) 19 (.act 18 (.cut (.pure 20 (.act 21 (.act 22 .done)))))))))) 18 (.act2 13 (.pure 14 (.pure 15 (.pure 16 (.pure 17 (.act 19 (.cut (.pure 20 (.act 21 (.act 22 .done))))))))) 19 (.act 13 (.pure 14 (.pure 15 (.pure 16 (.pure 17 (.cut (.pure 20 (.act 21 (.act 22 .done)))))))))) 19 (.act2 13 (.pure 14 (.pure 15 (.pure 16 (.pure 17 (.act 18 (.cut (.pure 20 (.act 21 (.act 22 .done))))))))) 18 (.act 13 (.pure 14 (.pure 15 (.pure 16 (.pure 17 (.cut (.pure 20 (.act 21 (.act 22 .done))))))))))) 18 (.act2 8 (.act2 13 (.pure 14 (.pure 15 (.pure 16 (.pure 17 (.act 19 (.cut (.pure 20 (.act 21 (.act 22 .done))))))))) 19 (.act 13 (.pure 14 (.pure 15 (.pure 16 (.pure 17 (.cut (.pure 20 (.act 21 (.act 22 .done)))))))))) 19 (.act 8 (.act 13 (.pure 14 (.pure 15 (.pure 16 (.pure 17 (.cut (.pure 20 (.act 21 (.act 22 .done))))))))))) 19 (.act2 8 (.act2 13 (.pure 14 (.pure 15 (.pure 16 (.pure 17 (.act 18 (.cut (.pure 20 (.act 21 (.act 22 .done))))))))) 18 (.act 13 (.pure 14 (.pure 15 (.pure 16 (.pure 17 (.cut (.pure 20 (.act 21 (.act 22 .done)))))))))) 18 (.act 8 (.act 13 (.pure 14 (.pure 15 (.pure 16 (.pure 17 (.cut (.pure 20 (.act 21 (.act 22 .done)))))))))))))))))))))))) No fP Te hm fun w hw ar hh=>?_
   have hm:=ar
   refine au 12 ?_
   refine ke ?_ ?_ ?_
   ·
    refine ca rfl rfl rfl (db r cr f bU aB g9 q cq cs _ (hf.Jj hm.to) Ta (ay.rd hm 0 rfl) Ta (hq.Jj hm.to) (fun c hc=>uu ((fun c hc=>fE.mono (aq c hc) hm.to) c hc)) Ta (V5 hv Ta)) fun v w hR=>?_
    obtain ⟨fk,aK,dE,aj,aI,aF,ry,rfl,ah,cY,dy,ae⟩:=hR
    refine ⟨hh.ext ae.to,?_⟩
    replace hh:=hh.ext ae.to
    replace hm:=hm.VZ ae
    obtain rfl:=ah.QB Jf Tb
    refine ke ?_ ?_ ?_
    ·
     refine ca rfl rfl rfl (nU cY Fk Fl Fm fO bY eD hm (hf.Jj hm.to) (ah.rd hm 0 rfl) dy fun e he=>Ly [_,_,_] he) fun v w hR=>?_
     obtain ⟨dL,aO,eX,eY,pa,ca,pk,rfl,aG,ae⟩:=hR
     refine ⟨hh.ext ae.to,?_⟩
     replace hh:=hh.ext ae.to
     replace hm:=hm.Jt ae
     refine au 4 ?_
     refine QN ?_ ?_
     ·
      refine al hm hh fun ma w jL hm hh=>?_
      refine al hm hh fun mb w jM hm hh=>?_
      refine au 2 ?_
      refine st hm 1 fun w hm=>?_
      refine st hm 0 fun w hm=>?_
      refine au 1 ?_
      exact Qt (dL,aO,eX,eY,ma,mb) ⟨(hm.pick [2,0,4,5] rfl),aG⟩ Tm
     ·
      refine al hm hh fun mb w jM hm hh=>?_
      refine al hm hh fun ma w jL hm hh=>?_
      refine au 2 ?_
      refine st hm 0 fun w hm=>?_
      refine st hm 1 fun w hm=>?_
      refine au 1 ?_
      exact Qt (dL,aO,eX,eY,ma,mb) ⟨(hm.pick [2,1,4,5] rfl),aG⟩ Tm
    ·
     refine al hm hh fun ma w jL hm hh=>?_
     refine QN ?_ ?_
     ·
      refine ca rfl rfl rfl (nU cY Fk Fl Fm fO bY eD hm (hf.Jj hm.to) (ah.rd hm 1 rfl) dy fun e he=>Ly [_,_,_,_] he) fun v w hR=>?_
      obtain ⟨dL,aO,eX,eY,pa,ca,pk,rfl,aG,ae⟩:=hR
      refine ⟨hh.ext ae.to,?_⟩
      replace hh:=hh.ext ae.to
      replace hm:=hm.Jt ae
      refine au 4 ?_
      refine al hm hh fun mb w jM hm hh=>?_
      refine au 2 ?_
      refine st hm 2 fun w hm=>?_
      refine st hm 0 fun w hm=>?_
      refine au 1 ?_
      exact Qt (dL,aO,eX,eY,ma,mb) ⟨(hm.pick [1,0,4,5] rfl),aG⟩ Tm
     ·
      refine al hm hh fun mb w jM hm hh=>?_
      refine ca rfl rfl rfl (nU cY Fk Fl Fm fO bY eD hm (hf.Jj hm.to) (ah.rd hm 2 rfl) dy fun e he=>Ly [_,_,_,_,_] he) fun v w hR=>?_
      obtain ⟨dL,aO,eX,eY,pa,ca,pk,rfl,aG,ae⟩:=hR
      refine ⟨hh.ext ae.to,?_⟩
      replace hh:=hh.ext ae.to
      replace hm:=hm.Jt ae
      refine au 6 ?_
      refine st hm 2 fun w hm=>?_
      refine st hm 1 fun w hm=>?_
      refine au 1 ?_
      exact Qt (dL,aO,eX,eY,ma,mb) ⟨(hm.pick [0,1,4,5] rfl),aG⟩ Tm
    ·
     refine al hm hh fun mb w jM hm hh=>?_
     refine QN ?_ ?_
     ·
      refine ca rfl rfl rfl (nU cY Fk Fl Fm fO bY eD hm (hf.Jj hm.to) (ah.rd hm 1 rfl) dy fun e he=>Ly [_,_,_,_] he) fun v w hR=>?_
      obtain ⟨dL,aO,eX,eY,pa,ca,pk,rfl,aG,ae⟩:=hR
      refine ⟨hh.ext ae.to,?_⟩
      replace hh:=hh.ext ae.to
      replace hm:=hm.Jt ae
      refine au 4 ?_
      refine al hm hh fun ma w jL hm hh=>?_
      refine au 2 ?_
      refine st hm 0 fun w hm=>?_
      refine st hm 2 fun w hm=>?_
      refine au 1 ?_
      exact Qt (dL,aO,eX,eY,ma,mb) ⟨(hm.pick [1,2,4,5] rfl),aG⟩ Tm
     ·
      refine al hm hh fun ma w jL hm hh=>?_
      refine ca rfl rfl rfl (nU cY Fk Fl Fm fO bY eD hm (hf.Jj hm.to) (ah.rd hm 2 rfl) dy fun e he=>Ly [_,_,_,_,_] he) fun v w hR=>?_
      obtain ⟨dL,aO,eX,eY,pa,ca,pk,rfl,aG,ae⟩:=hR
      refine ⟨hh.ext ae.to,?_⟩
      replace hh:=hh.ext ae.to
      replace hm:=hm.Jt ae
      refine au 6 ?_
      refine st hm 1 fun w hm=>?_
      refine st hm 2 fun w hm=>?_
      refine au 1 ?_
      exact Qt (dL,aO,eX,eY,ma,mb) ⟨(hm.pick [0,2,4,5] rfl),aG⟩ Tm
   ·
    refine al hm hh fun ma w jL hm hh=>?_
    refine QN ?_ ?_
    ·
     refine ca rfl rfl rfl (db r cr f bU aB g9 q cq cs _ (hf.Jj hm.to) Ta (ay.rd hm 1 rfl) Ta (hq.Jj hm.to) (fun c hc=>uu ((fun c hc=>fE.mono (aq c hc) hm.to) c hc)) Ta (V5 hv Ta)) fun v w hR=>?_
     obtain ⟨fk,aK,dE,aj,aI,aF,ry,rfl,ah,cY,dy,ae⟩:=hR
     refine ⟨hh.ext ae.to,?_⟩
     replace hh:=hh.ext ae.to
     replace hm:=hm.VZ ae
     obtain rfl:=ah.QB Jf Tb
     refine QN ?_ ?_
     ·
      refine ca rfl rfl rfl (nU cY Fk Fl Fm fO bY eD hm (hf.Jj hm.to) (ah.rd hm 0 rfl) dy fun e he=>Ly [_,_,_,_] he) fun v w hR=>?_
      obtain ⟨dL,aO,eX,eY,pa,ca,pk,rfl,aG,ae⟩:=hR
      refine ⟨hh.ext ae.to,?_⟩
      replace hh:=hh.ext ae.to
      replace hm:=hm.Jt ae
      refine au 4 ?_
      refine al hm hh fun mb w jM hm hh=>?_
      refine au 2 ?_
      refine st hm 3 fun w hm=>?_
      refine st hm 0 fun w hm=>?_
      refine au 1 ?_
      exact Qt (dL,aO,eX,eY,ma,mb) ⟨(hm.pick [1,0,4,5] rfl),aG⟩ Tm
     ·
      refine al hm hh fun mb w jM hm hh=>?_
      refine ca rfl rfl rfl (nU cY Fk Fl Fm fO bY eD hm (hf.Jj hm.to) (ah.rd hm 1 rfl) dy fun e he=>Ly [_,_,_,_,_] he) fun v w hR=>?_
      obtain ⟨dL,aO,eX,eY,pa,ca,pk,rfl,aG,ae⟩:=hR
      refine ⟨hh.ext ae.to,?_⟩
      replace hh:=hh.ext ae.to
      replace hm:=hm.Jt ae
      refine au 6 ?_
      refine st hm 3 fun w hm=>?_
      refine st hm 1 fun w hm=>?_
      refine au 1 ?_
      exact Qt (dL,aO,eX,eY,ma,mb) ⟨(hm.pick [0,1,4,5] rfl),aG⟩ Tm
    ·
     refine al hm hh fun mb w jM hm hh=>?_
     refine ca rfl rfl rfl (db r cr f bU aB g9 q cq cs _ (hf.Jj hm.to) Ta (ay.rd hm 2 rfl) Ta (hq.Jj hm.to) (fun c hc=>uu ((fun c hc=>fE.mono (aq c hc) hm.to) c hc)) Ta (V5 hv Ta)) fun v w hR=>?_
     obtain ⟨fk,aK,dE,aj,aI,aF,ry,rfl,ah,cY,dy,ae⟩:=hR
     refine ⟨hh.ext ae.to,?_⟩
     replace hh:=hh.ext ae.to
     replace hm:=hm.VZ ae
     obtain rfl:=ah.QB Jf Tb
     refine ca rfl rfl rfl (nU cY Fk Fl Fm fO bY eD hm (hf.Jj hm.to) (ah.rd hm 0 rfl) dy fun e he=>Ly [_,_,_,_,_] he) fun v w hR=>?_
     obtain ⟨dL,aO,eX,eY,pa,ca,pk,rfl,aG,ae⟩:=hR
     refine ⟨hh.ext ae.to,?_⟩
     replace hh:=hh.ext ae.to
     replace hm:=hm.Jt ae
     refine au 6 ?_
     refine st hm 3 fun w hm=>?_
     refine st hm 2 fun w hm=>?_
     refine au 1 ?_
     exact Qt (dL,aO,eX,eY,ma,mb) ⟨(hm.pick [0,2,4,5] rfl),aG⟩ Tm
   ·
    refine al hm hh fun mb w jM hm hh=>?_
    refine QN ?_ ?_
    ·
     refine ca rfl rfl rfl (db r cr f bU aB g9 q cq cs _ (hf.Jj hm.to) Ta (ay.rd hm 1 rfl) Ta (hq.Jj hm.to) (fun c hc=>uu ((fun c hc=>fE.mono (aq c hc) hm.to) c hc)) Ta (V5 hv Ta)) fun v w hR=>?_
     obtain ⟨fk,aK,dE,aj,aI,aF,ry,rfl,ah,cY,dy,ae⟩:=hR
     refine ⟨hh.ext ae.to,?_⟩
     replace hh:=hh.ext ae.to
     replace hm:=hm.VZ ae
     obtain rfl:=ah.QB Jf Tb
     refine QN ?_ ?_
     ·
      refine ca rfl rfl rfl (nU cY Fk Fl Fm fO bY eD hm (hf.Jj hm.to) (ah.rd hm 0 rfl) dy fun e he=>Ly [_,_,_,_] he) fun v w hR=>?_
      obtain ⟨dL,aO,eX,eY,pa,ca,pk,rfl,aG,ae⟩:=hR
      refine ⟨hh.ext ae.to,?_⟩
      replace hh:=hh.ext ae.to
      replace hm:=hm.Jt ae
      refine au 4 ?_
      refine al hm hh fun ma w jL hm hh=>?_
      refine au 2 ?_
      refine st hm 0 fun w hm=>?_
      refine st hm 3 fun w hm=>?_
      refine au 1 ?_
      exact Qt (dL,aO,eX,eY,ma,mb) ⟨(hm.pick [1,3,4,5] rfl),aG⟩ Tm
     ·
      refine al hm hh fun ma w jL hm hh=>?_
      refine ca rfl rfl rfl (nU cY Fk Fl Fm fO bY eD hm (hf.Jj hm.to) (ah.rd hm 1 rfl) dy fun e he=>Ly [_,_,_,_,_] he) fun v w hR=>?_
      obtain ⟨dL,aO,eX,eY,pa,ca,pk,rfl,aG,ae⟩:=hR
      refine ⟨hh.ext ae.to,?_⟩
      replace hh:=hh.ext ae.to
      replace hm:=hm.Jt ae
      refine au 6 ?_
      refine st hm 1 fun w hm=>?_
      refine st hm 3 fun w hm=>?_
      refine au 1 ?_
      exact Qt (dL,aO,eX,eY,ma,mb) ⟨(hm.pick [0,3,4,5] rfl),aG⟩ Tm
    ·
     refine al hm hh fun ma w jL hm hh=>?_
     refine ca rfl rfl rfl (db r cr f bU aB g9 q cq cs _ (hf.Jj hm.to) Ta (ay.rd hm 2 rfl) Ta (hq.Jj hm.to) (fun c hc=>uu ((fun c hc=>fE.mono (aq c hc) hm.to) c hc)) Ta (V5 hv Ta)) fun v w hR=>?_
     obtain ⟨fk,aK,dE,aj,aI,aF,ry,rfl,ah,cY,dy,ae⟩:=hR
     refine ⟨hh.ext ae.to,?_⟩
     replace hh:=hh.ext ae.to
     replace hm:=hm.VZ ae
     obtain rfl:=ah.QB Jf Tb
     refine ca rfl rfl rfl (nU cY Fk Fl Fm fO bY eD hm (hf.Jj hm.to) (ah.rd hm 0 rfl) dy fun e he=>Ly [_,_,_,_,_] he) fun v w hR=>?_
     obtain ⟨dL,aO,eX,eY,pa,ca,pk,rfl,aG,ae⟩:=hR
     refine ⟨hh.ext ae.to,?_⟩
     replace hh:=hh.ext ae.to
     replace hm:=hm.Jt ae
     refine au 6 ?_
     refine st hm 2 fun w hm=>?_
     refine st hm 3 fun w hm=>?_
     refine au 1 ?_
     exact Qt (dL,aO,eX,eY,ma,mb) ⟨(hm.pick [0,3,4,5] rfl),aG⟩ Tm
  ·
   obtain ⟨dL,aO,eX,eY,ma,mb⟩:=x
   obtain ⟨hm,aG⟩:=hM
   simp only at hm aG
   refine au 5 ?_
   refine Ja rfl rfl (JA (c:=false) (jo rfl rfl iii46) Tb)<|au 3 ?_
   refine cA rfl rfl rfl (C.as (v:=.bool true) (Nh (some dL) bU aO aB g9 g9 _ (aG.rd hm 0 rfl) (ay.rd hm 2 rfl) Ta Ta) (LM Value.bool (LQ rfl))) hm fun w hm=>au 10 ?_
   refine JK rfl rfl rfl (fun hc=>(gq (gx hc rfl) rfl sl22.h))<|au 4 ?_
   refine cd (fun ao=>?_) fun ao=>?_
   ·
    refine au 2 ?_
    refine cA rfl rfl rfl (xg _ (Bw.to hm.to) fun _ h9 _ h8=>rT h9 h8) hm fun w hm=>au 3 ?_
    refine Ja rfl rfl (JA (c:=true) (sD rfl rfl iii46) Tb)<|au 4 ?_
    refine cA rfl rfl rfl (C.as (v:=.bool true) (Nh (some dL) bU aO aB g9 g9 _ (aG.rd hm 0 rfl) (ay.rd hm 2 rfl) Ta Ta) (LM Value.bool (LQ rfl))) hm fun w hm=>au 7 ?_
    exact ⟨rfl,hm.to⟩
   ·
    simp only [bD,dF] at ao
    obtain ⟨k1,k2,k3⟩:=Px (f:=g9) (g:=f) (k:=u) Ta Ta
    refine au 2 ?_
    refine Xc (ι:=Addr×Nat×Nat×ag×Nat×Nat) rfl (ks:=[1,2,4,6]) Tn (fun x=>[(9,.slice (some x.1) f.length x.2.1),(11,.pointer (some ⟨x.2.2.2.2.2,0,none⟩))]) (fun x w=>Mem w0 w No [(x.2.2.1,x.2.2.2.1),(x.2.2.2.2.2,.row 46 [.int .i64 0,.int .i64 0]),(m1,.row 28 (NY r f.length cr oo nn H q cs.length cq (sn:Int) bd mo))]∧Acc 5 1 (some x.1) f.length x.2.1 (f.flatMap Jk) x.2.2.1 x.2.2.2.1) ?_ (fun x w hM=>?_)
    ·
     refine JS (.pure 0 (.pure 1 (.pure 2 (.pure 3 (.pure 4 (.pure 5 (.pure 7 (.pure 8 (.pure 9 (.pure 10 (.act3 6 (.act3 11 (.pure 12 (.pure 13 (.pure 14 (.pure 15 (.act2 16 (.act 17 (.cut (.pure 18 (.act 19 (.act 20 .done))))) 17 (.act 16 (.cut (.pure 18 (.act 19 (.act 20 .done)))))))))) 16 (.act2 11 (.pure 12 (.pure 13 (.pure 14 (.pure 15 (.act 17 (.cut (.pure 18 (.act 19 (.act 20 .done))))))))) 17 (.act 11 (.pure 12 (.pure 13 (.pure 14 (.pure 15 (.cut (.pure 18 (.act 19 (.act 20 .done)))))))))) 17 (.act2 11 (.pure 12 (.pure 13 (.pure 14 (.pure 15 (.act 16 (.cut (.pure 18 (.act 19 (.act 20 .done))))))))) 16 (.act 11 (.pure 12 (.pure 13 (.pure 14 (.pure 15 (.cut (.pure 18 (.act 19 (.act 20 .done))))))))))) 16 (.act2 6 (.act2 11 (.pure 12 (.pure 13 (.pure 14 (.pure 15 (.act 17 (.cut (.pure 18 (.act 19 (.act 20 .done))))))))) 17 (.act 11 (.pure 12 (.pure 13 (.pure 14 (.pure 15 (.cut (.pure 18 (.act 19 (.act 20 .done)))))))))) 17 (.act 6 (.act 11 (.pure 12 (.pure 13 (.pure 14 (.pure 15 (.cut (.pure 18 (.act 19 (.act 20 .done))))))))))) 17 (.act2 6 (.act2 11 (.pure 12 (.pure 13 (.pure 14 (.pure 15 (.act 16 (.cut (.pure 18 (.act 19 (.act 20 .done))))))))) 16 (.act 11 (.pure 12 (.pure 13 (.pure 14 (.pure 15 (.cut (.pure 18 (.act 19 (.act 20 .done)))))))))) 16 (.act 6 (.act 11 (.pure 12 (.pure 13 (.pure 14 (.pure 15 (.cut (.pure 18 (.act 19 (.act 20 .done)))))))))))))))))))))) No fP Te hm fun w hw ar hh=>?_
     have hm:=ar
     refine au 5 ?_
     refine Ja rfl rfl (JX rfl is5 it3 (Ql Ta Ta))<|au 4 ?_
     refine ke ?_ ?_ ?_
     ·
      refine ca rfl rfl rfl (jj dL aO g9 r cr f u _ (aG.rd hm 0 rfl) ⟨Ta,aG.le⟩ (hf.Jj hm.to) ⟨bY,Ta⟩ eD (by unfold Pl.aA; omega) (Bw.to hm.to)) fun v w hR=>?_
      obtain ⟨ys,Ri,ZJ,p0,ZK,ZL,ZM,rfl,dN,ew,vf,ae⟩:=hR
      refine ⟨hh.ext ae.to,?_⟩
      replace hh:=hh.ext ae.to
      obtain rfl:=dN.QB Jf Tb
      replace hm:=hm.VZ ae
      refine ke ?_ ?_ ?_
      ·
       refine ca rfl rfl rfl (nU ew k1 k2 Ta fO aG.le aG.spot hm (aG.rd hm 1 rfl) (dN.rd hm 0 rfl) vf fun e he=>Ly [_,_,_,_,_] he) fun v w hR=>?_
       obtain ⟨jc,bK,fY,fX,pa,ca,pk,rfl,aS,ae⟩:=hR
       refine ⟨hh.ext ae.to,?_⟩
       replace hh:=hh.ext ae.to
       replace hm:=hm.Jt ae
       refine au 4 ?_
       refine QN ?_ ?_
       ·
        refine al hm hh fun mc w jN hm hh=>?_
        refine al hm hh fun md w il hm hh=>?_
        refine au 2 ?_
        refine st hm 1 fun w hm=>?_
        refine st hm 0 fun w hm=>?_
        refine au 1 ?_
        exact Qt (jc,bK,fY,fX,mc,md) ⟨(hm.pick [2,0,7] rfl),aS⟩ Tm
       ·
        refine al hm hh fun md w il hm hh=>?_
        refine al hm hh fun mc w jN hm hh=>?_
        refine au 2 ?_
        refine st hm 0 fun w hm=>?_
        refine st hm 1 fun w hm=>?_
        refine au 1 ?_
        exact Qt (jc,bK,fY,fX,mc,md) ⟨(hm.pick [2,1,7] rfl),aS⟩ Tm
      ·
       refine al hm hh fun mc w jN hm hh=>?_
       refine QN ?_ ?_
       ·
        refine ca rfl rfl rfl (nU ew k1 k2 Ta fO aG.le aG.spot hm (aG.rd hm 2 rfl) (dN.rd hm 1 rfl) vf fun e he=>Ly [_,_,_,_,_,_] he) fun v w hR=>?_
        obtain ⟨jc,bK,fY,fX,pa,ca,pk,rfl,aS,ae⟩:=hR
        refine ⟨hh.ext ae.to,?_⟩
        replace hh:=hh.ext ae.to
        replace hm:=hm.Jt ae
        refine au 4 ?_
        refine al hm hh fun md w il hm hh=>?_
        refine au 2 ?_
        refine st hm 2 fun w hm=>?_
        refine st hm 0 fun w hm=>?_
        refine au 1 ?_
        exact Qt (jc,bK,fY,fX,mc,md) ⟨(hm.pick [1,0,7] rfl),aS⟩ Tm
       ·
        refine al hm hh fun md w il hm hh=>?_
        refine ca rfl rfl rfl (nU ew k1 k2 Ta fO aG.le aG.spot hm (aG.rd hm 3 rfl) (dN.rd hm 2 rfl) vf fun e he=>Ly [_,_,_,_,_,_,_] he) fun v w hR=>?_
        obtain ⟨jc,bK,fY,fX,pa,ca,pk,rfl,aS,ae⟩:=hR
        refine ⟨hh.ext ae.to,?_⟩
        replace hh:=hh.ext ae.to
        replace hm:=hm.Jt ae
        refine au 6 ?_
        refine st hm 2 fun w hm=>?_
        refine st hm 1 fun w hm=>?_
        refine au 1 ?_
        exact Qt (jc,bK,fY,fX,mc,md) ⟨(hm.pick [0,1,7] rfl),aS⟩ Tm
      ·
       refine al hm hh fun md w il hm hh=>?_
       refine QN ?_ ?_
       ·
        refine ca rfl rfl rfl (nU ew k1 k2 Ta fO aG.le aG.spot hm (aG.rd hm 2 rfl) (dN.rd hm 1 rfl) vf fun e he=>Ly [_,_,_,_,_,_] he) fun v w hR=>?_
        obtain ⟨jc,bK,fY,fX,pa,ca,pk,rfl,aS,ae⟩:=hR
        refine ⟨hh.ext ae.to,?_⟩
        replace hh:=hh.ext ae.to
        replace hm:=hm.Jt ae
        refine au 4 ?_
        refine al hm hh fun mc w jN hm hh=>?_
        refine au 2 ?_
        refine st hm 0 fun w hm=>?_
        refine st hm 2 fun w hm=>?_
        refine au 1 ?_
        exact Qt (jc,bK,fY,fX,mc,md) ⟨(hm.pick [1,2,7] rfl),aS⟩ Tm
       ·
        refine al hm hh fun mc w jN hm hh=>?_
        refine ca rfl rfl rfl (nU ew k1 k2 Ta fO aG.le aG.spot hm (aG.rd hm 3 rfl) (dN.rd hm 2 rfl) vf fun e he=>Ly [_,_,_,_,_,_,_] he) fun v w hR=>?_
        obtain ⟨jc,bK,fY,fX,pa,ca,pk,rfl,aS,ae⟩:=hR
        refine ⟨hh.ext ae.to,?_⟩
        replace hh:=hh.ext ae.to
        replace hm:=hm.Jt ae
        refine au 6 ?_
        refine st hm 1 fun w hm=>?_
        refine st hm 2 fun w hm=>?_
        refine au 1 ?_
        exact Qt (jc,bK,fY,fX,mc,md) ⟨(hm.pick [0,2,7] rfl),aS⟩ Tm
     ·
      refine al hm hh fun mc w jN hm hh=>?_
      refine QN ?_ ?_
      ·
       refine ca rfl rfl rfl (jj dL aO g9 r cr f u _ (aG.rd hm 1 rfl) ⟨Ta,aG.le⟩ (hf.Jj hm.to) ⟨bY,Ta⟩ eD (by unfold Pl.aA; omega) (Bw.to hm.to)) fun v w hR=>?_
       obtain ⟨ys,Ri,ZJ,p0,ZK,ZL,ZM,rfl,dN,ew,vf,ae⟩:=hR
       refine ⟨hh.ext ae.to,?_⟩
       replace hh:=hh.ext ae.to
       obtain rfl:=dN.QB Jf Tb
       replace hm:=hm.VZ ae
       refine QN ?_ ?_
       ·
        refine ca rfl rfl rfl (nU ew k1 k2 Ta fO aG.le aG.spot hm (aG.rd hm 2 rfl) (dN.rd hm 0 rfl) vf fun e he=>Ly [_,_,_,_,_,_] he) fun v w hR=>?_
        obtain ⟨jc,bK,fY,fX,pa,ca,pk,rfl,aS,ae⟩:=hR
        refine ⟨hh.ext ae.to,?_⟩
        replace hh:=hh.ext ae.to
        replace hm:=hm.Jt ae
        refine au 4 ?_
        refine al hm hh fun md w il hm hh=>?_
        refine au 2 ?_
        refine st hm 3 fun w hm=>?_
        refine st hm 0 fun w hm=>?_
        refine au 1 ?_
        exact Qt (jc,bK,fY,fX,mc,md) ⟨(hm.pick [1,0,7] rfl),aS⟩ Tm
       ·
        refine al hm hh fun md w il hm hh=>?_
        refine ca rfl rfl rfl (nU ew k1 k2 Ta fO aG.le aG.spot hm (aG.rd hm 3 rfl) (dN.rd hm 1 rfl) vf fun e he=>Ly [_,_,_,_,_,_,_] he) fun v w hR=>?_
        obtain ⟨jc,bK,fY,fX,pa,ca,pk,rfl,aS,ae⟩:=hR
        refine ⟨hh.ext ae.to,?_⟩
        replace hh:=hh.ext ae.to
        replace hm:=hm.Jt ae
        refine au 6 ?_
        refine st hm 3 fun w hm=>?_
        refine st hm 1 fun w hm=>?_
        refine au 1 ?_
        exact Qt (jc,bK,fY,fX,mc,md) ⟨(hm.pick [0,1,7] rfl),aS⟩ Tm
      ·
       refine al hm hh fun md w il hm hh=>?_
       refine ca rfl rfl rfl (jj dL aO g9 r cr f u _ (aG.rd hm 2 rfl) ⟨Ta,aG.le⟩ (hf.Jj hm.to) ⟨bY,Ta⟩ eD (by unfold Pl.aA; omega) (Bw.to hm.to)) fun v w hR=>?_
       obtain ⟨ys,Ri,ZJ,p0,ZK,ZL,ZM,rfl,dN,ew,vf,ae⟩:=hR
       refine ⟨hh.ext ae.to,?_⟩
       replace hh:=hh.ext ae.to
       obtain rfl:=dN.QB Jf Tb
       replace hm:=hm.VZ ae
       refine ca rfl rfl rfl (nU ew k1 k2 Ta fO aG.le aG.spot hm (aG.rd hm 3 rfl) (dN.rd hm 0 rfl) vf fun e he=>Ly [_,_,_,_,_,_,_] he) fun v w hR=>?_
       obtain ⟨jc,bK,fY,fX,pa,ca,pk,rfl,aS,ae⟩:=hR
       refine ⟨hh.ext ae.to,?_⟩
       replace hh:=hh.ext ae.to
       replace hm:=hm.Jt ae
       refine au 6 ?_
       refine st hm 3 fun w hm=>?_
       refine st hm 2 fun w hm=>?_
       refine au 1 ?_
       exact Qt (jc,bK,fY,fX,mc,md) ⟨(hm.pick [0,2,7] rfl),aS⟩ Tm
     ·
      refine al hm hh fun md w il hm hh=>?_
      refine QN ?_ ?_
      ·
       refine ca rfl rfl rfl (jj dL aO g9 r cr f u _ (aG.rd hm 1 rfl) ⟨Ta,aG.le⟩ (hf.Jj hm.to) ⟨bY,Ta⟩ eD (by unfold Pl.aA; omega) (Bw.to hm.to)) fun v w hR=>?_
       obtain ⟨ys,Ri,ZJ,p0,ZK,ZL,ZM,rfl,dN,ew,vf,ae⟩:=hR
       refine ⟨hh.ext ae.to,?_⟩
       replace hh:=hh.ext ae.to
       obtain rfl:=dN.QB Jf Tb
       replace hm:=hm.VZ ae
       refine QN ?_ ?_
       ·
        refine ca rfl rfl rfl (nU ew k1 k2 Ta fO aG.le aG.spot hm (aG.rd hm 2 rfl) (dN.rd hm 0 rfl) vf fun e he=>Ly [_,_,_,_,_,_] he) fun v w hR=>?_
        obtain ⟨jc,bK,fY,fX,pa,ca,pk,rfl,aS,ae⟩:=hR
        refine ⟨hh.ext ae.to,?_⟩
        replace hh:=hh.ext ae.to
        replace hm:=hm.Jt ae
        refine au 4 ?_
        refine al hm hh fun mc w jN hm hh=>?_
        refine au 2 ?_
        refine st hm 0 fun w hm=>?_
        refine st hm 3 fun w hm=>?_
        refine au 1 ?_
        exact Qt (jc,bK,fY,fX,mc,md) ⟨(hm.pick [1,3,7] rfl),aS⟩ Tm
       ·
        refine al hm hh fun mc w jN hm hh=>?_
        refine ca rfl rfl rfl (nU ew k1 k2 Ta fO aG.le aG.spot hm (aG.rd hm 3 rfl) (dN.rd hm 1 rfl) vf fun e he=>Ly [_,_,_,_,_,_,_] he) fun v w hR=>?_
        obtain ⟨jc,bK,fY,fX,pa,ca,pk,rfl,aS,ae⟩:=hR
        refine ⟨hh.ext ae.to,?_⟩
        replace hh:=hh.ext ae.to
        replace hm:=hm.Jt ae
        refine au 6 ?_
        refine st hm 1 fun w hm=>?_
        refine st hm 3 fun w hm=>?_
        refine au 1 ?_
        exact Qt (jc,bK,fY,fX,mc,md) ⟨(hm.pick [0,3,7] rfl),aS⟩ Tm
      ·
       refine al hm hh fun mc w jN hm hh=>?_
       refine ca rfl rfl rfl (jj dL aO g9 r cr f u _ (aG.rd hm 2 rfl) ⟨Ta,aG.le⟩ (hf.Jj hm.to) ⟨bY,Ta⟩ eD (by unfold Pl.aA; omega) (Bw.to hm.to)) fun v w hR=>?_
       obtain ⟨ys,Ri,ZJ,p0,ZK,ZL,ZM,rfl,dN,ew,vf,ae⟩:=hR
       refine ⟨hh.ext ae.to,?_⟩
       replace hh:=hh.ext ae.to
       obtain rfl:=dN.QB Jf Tb
       replace hm:=hm.VZ ae
       refine ca rfl rfl rfl (nU ew k1 k2 Ta fO aG.le aG.spot hm (aG.rd hm 3 rfl) (dN.rd hm 0 rfl) vf fun e he=>Ly [_,_,_,_,_,_,_] he) fun v w hR=>?_
       obtain ⟨jc,bK,fY,fX,pa,ca,pk,rfl,aS,ae⟩:=hR
       refine ⟨hh.ext ae.to,?_⟩
       replace hh:=hh.ext ae.to
       replace hm:=hm.Jt ae
       refine au 6 ?_
       refine st hm 2 fun w hm=>?_
       refine st hm 3 fun w hm=>?_
       refine au 1 ?_
       exact Qt (jc,bK,fY,fX,mc,md) ⟨(hm.pick [0,3,7] rfl),aS⟩ Tm
    ·
     obtain ⟨jc,bK,fY,fX,mc,md⟩:=x
     obtain ⟨hm,aS⟩:=hM
     simp only at hm aS
     refine au 2 ?_
     refine cA rfl rfl rfl (xg _ (Bw.to hm.to) fun _ h9 _ h8=>rT h9 h8) hm fun w hm=>au 3 ?_
     refine Ja rfl rfl (JA (c:=true) (sD rfl rfl iii46) Tb)<|au 5 ?_
     refine cA rfl rfl rfl (C.as (v:=.bool true) (Nh (some jc) r bK cr f f _ (aS.rd hm 0 rfl) (hf.Jj hm.to) Ta Ta) (LM Value.bool (LQ rfl))) hm fun w hm=>au 6 ?_
     exact ⟨rfl,hm.to⟩
end Go.Proofs.YtaehgpeenaomcaaGreat
