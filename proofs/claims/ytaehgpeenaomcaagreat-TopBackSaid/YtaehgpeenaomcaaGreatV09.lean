/- Part 10 of the proof of TopBack: SfB Fm FmB FmC Ix IxB. Conditions: the hypotheses of each theorem. -/
import Derived.Test.YtaehgpeenaomcaaGreatV08
import Derived.Test.YtaehgpeenaomcaaGreatChecked
set_option maxRecDepth 10000
set_option maxHeartbeats 4000000
set_option linter.unusedVariables false
set_option linter.unusedSimpArgs false
namespace Go.Proofs.YtaehgpeenaomcaaGreat
open Go Go.Cx
end Go.Proofs.YtaehgpeenaomcaaGreat
namespace Go.Cx
open Go Go.Cx Go.Proofs.YtaehgpeenaomcaaGreat
theorem Mem.Ax{w w':World}{L:Tf}(h:Mem w w' No L):Mem w w' (Mn (ak [])) L:=⟨h.os,h.tape,h.output,h.size,fun k hk _=>h.same k hk id,h.own,fun p hp hr=>(h.fresh p hp hr).elim (fun e=>e.elim) .inr,h.nodup⟩
end Go.Cx
namespace Go.Pl
open Go Go.Cx Go.Proofs.YtaehgpeenaomcaaGreat
def nQ(c:aa):Int×Int:=(c.to,Pl.aw c.cm)
end Go.Pl
namespace Go.Proofs.YtaehgpeenaomcaaGreat
open Go Go.Cx
theorem uA{cs:List aa}{i:Nat}{c:aa}(h:cs[i]?=some c):((cs.take i).map Pl.nQ).flatMap Q9++[.int .i64 c.to,.int .i64 (Pl.aw c.cm)]=((cs.take (i+1)).map Pl.nQ).flatMap Q9:=by
 rw [LC,h,Lx,Lh]
 rfl
theorem HD{cs:List aa}{i:Nat}(h:i≤cs.length):((cs.take i).map Pl.nQ).length=i:=by rw [Lj,Lg]; omega
theorem N8{cs:List aa}(h:∀ c∈cs,Pl.av c.cm=0)(i:Nat):∀ e∈(cs.take i).map Pl.nQ,0≤e.1∧0≤e.2∧e.1+e.2≤9223372036854775807:=fun e he=>by
 obtain ⟨c,hc,rfl⟩:=Ln.1 he
 have h1:=Pl.Jl (h c (List.mem_of_mem_take hc))
 have h2:c.cm.to=c.to:=rfl
 simp only [Pl.nQ]
 omega
theorem DX(q:Tg)(cq:Nat)(cs:List aa)(m1 yl:Nat)(I:Tf→Nat→World→Prop)(F0:Tf)(w0:World)(hl:cs.length≤1000000)
 (cK:∀ F i w,I F i w→w.heap[m1]?=some (ag.row 24 [.slice q cs.length cq]).Jd∧Rd w q (cs.flatMap JM))
 (eu:∀ F i w,I F i w→Jr w F) (c6:∀ Z Z' F i w w',I (Z++F) i w→Mem w w' (Mn (ak Z)) Z'→I (Z'++F) i w') (U2:∀ F F' i w,I F i w→F.Perm F'→I F' i w)
 (hy:∀ p n cap g b F i w c,I ((g,b)::F) i w→cs[i]?=some c→Acc 32 2 p n cap (((cs.take i).map Pl.nQ).flatMap Q9) g b→Yw Tryz.prog yl [.int .i64 (i:Int),.slice p n cap] w fun v w'=>v=.bool true∧I ((g,b)::F) (i+1) w') (h0:I F0 0 w0):C Tryz.prog 250 [.func (.yield yl) #[] #[],.pointer (some ⟨m1,0,none⟩)] w0 fun v w'=>v=.tuple ⟨[]⟩∧∃ F,I F cs.length w':=by
 refine aH Tryz.func250 fun κ _ Je Jc hm=>?_
 refine au 3 ?_
 replace hm:=hm.JP
 have az:=Acc.nil 32 2 none 0
 refine au 4 ?_
 refine Ja rfl rfl (Jh rfl sc24.h (Qo ((hm.to.same _ (Lb.1 (cK _ _ _ h0).1).1 id).trans (cK _ _ _ h0).1)) rfl)<|au 5 ?_
 refine Jg (ι:=Ow×List (Nat×ag)×Nat) rfl (ks:=[0,6,7]) Tn (fun x=>[(3,.slice x.1.p x.1.n x.1.cap),(8,.int .i64 (x.2.2:Int))]) (fun x w=>I ((x.1.g,x.1.b)::x.2.1) x.2.2 w∧Acc 32 2 x.1.p x.1.n x.1.cap (((cs.take x.2.2).map Pl.nQ).flatMap Q9) x.1.g x.1.b∧x.2.2≤cs.length∧x.1.n=x.2.2) (fun x=>cs.length-x.2.2) (⟨none,0,0,0,.gap⟩,F0,0) (⟨c6 [] [_] F0 0 _ _ h0 hm.Ax,az,LL _,rfl⟩) Tm (fun x w hM=>?_)
 obtain ⟨hI,az,hk,Bt⟩:=hM
 have hm:=Mem.start w
 obtain ⟨hR1,Br⟩:=cK _ _ _ hI
 refine au 6 ?_
 refine cd (fun ai=>?_) fun ai=>?_
 ·
  simp only [dT] at ai
  obtain ⟨c,hi⟩:∃ y_,cs[x.2.2]?=some y_:=⟨_,La Ta⟩
  obtain ⟨qb,qo,rfl⟩:=Br.bS Jf Tb hi
  refine au 8 ?_
  refine Ja rfl rfl (JU rfl ag60.h (Br.Jj hm.to).nt Jf hi)<|aT hm fun m2 w hm=>?_
  refine au 1 ?_
  refine st hm 0 fun w hm=>?_
  refine au 8 ?_
  have yf:=c6 [] _ _ _ _ _ hI hm.Ax
  have Ag:=U2 _ _ _ _ yf (List.Perm.swap _ _ _)
  refine XM rfl rfl rfl rfl (hy _ _ _ _ _ _ _ _ c Ag hi az) fun v w hR=>⟨trivial,?_⟩
  obtain ⟨rfl,N9⟩:=hR
  have hm:=(Jr.left (A:=[_,_]) (eu _ _ _ N9)).start
  refine au 9 ?_
  refine cA rfl rfl rfl (Vd c.cm c.d.p c.d.cap _) hm fun w hm=>Jb (l:=[_,_]) rfl rfl sl240.h z32.h rfl rfl rfl rfl rfl rfl rfl hm trivial fun m1 w c5 hm hh=>Jy rfl rfl rfl rfl rfl rfl sl240.h sl240.h z32.h rfl rfl (Rd.JL (hm.get (k:=0) rfl)) rfl az hm 1 rfl Ta Ta fun dJ aM cD dK w az hm=>au 8 ?_
  refine next (⟨dJ,_,aM,cD,dK⟩,(m2,_)::x.2.1,x.2.2+1) Td ⟨c6 [_,_] [_,_] x.2.1 _ _ _ N9 (hm.pick [1,2] rfl),az.to (uA hi),Td,Td⟩ ⟨rfl,nx x.2.2,Tm⟩
 ·
  simp only [dF] at ai
  have b8:x.2.2=cs.length:=by omega
  refine au 4 ?_
  refine eK (fin Jc rfl .nil .nil ?_)
  exact ⟨rfl,_,by rw [← b8]; exact hI⟩
theorem HE(q:Tg)(n cq:Nat)(w0:World):C Tryz.prog 212 [.slice q n cq] w0 fun v w'=>∃ m1,v=.func (.func 250) #[] ⟨[.pointer (some ⟨m1,0,none⟩)]⟩∧Mem w0 w' No [(m1,.row 24 [.slice q n cq])]:=by
 refine aH Tryz.func212 fun κ _ Je Jc hm=>?_
 refine au 2 ?_
 refine bT hm fun m1 w hm=>?_
 refine au 11 ?_
 exact ⟨_,rfl,hm⟩
theorem DY(q:Tg)(cq:Nat)(cs:List aa)(w0:World)(hq:Rd w0 q (cs.flatMap JM))(hl:cs.length≤1000000)(b6:∀ c∈cs,Pl.av c.cm=0)(P3:∀ i c,cs[i]?=some c→(decide (c.k=1)&&((cs.take i).map Pl.nQ).any fun e=>(Pl.aL (Pl.br c.cm).1 (Pl.br c.cm).2 e.1 e.2).isSome)=false):C Tryz.prog 171 [.slice q cs.length cq] w0 fun v w'=>v=.int .i64 cs.length∧Ext No w0 w':=by
 refine Zt Tryz.func171 rfl rfl rfl fun κ _ Je Jc=>?_
 have hm:=Mem.start w0
 refine au 2 ?_
 refine bT hm fun m1 w hm=>?_
 refine aT hm fun m2 w hm=>?_
 refine au 6 ?_
 refine cT rfl rfl rfl (HE q _ cq _) fun v w hR=>?_
 obtain ⟨qa,rfl,ae⟩:=hR
 replace hm:=hm.Jt ae
 refine au 3 ?_
 refine VJ rfl rfl go250 hm fun a_ fn r0 l w LB jF dV Km Kn hm=>C.mono (DX q cq cs qa l (fun F i w=>Mem w0 w No ((l,LB .ready none)::(r0,eh (some []))::(qa,.row 24 [.slice q cs.length cq])::(m2,.row 3 [.int .i64 0])::(m1,.row 24 [.slice q cs.length cq])::F)) [] _ hl (fun F i w hm=>⟨hm.get (k:=2) rfl,hq.Jj hm.to⟩) (fun F i w hm=>Jr.right (A:=[_,_,_,_,_]) hm.Jz)
  (fun Z Z' F i w w' hm hc=>Mem.mq (A:=[_,_,_,_,_]) hm hc) (fun F F' i w hm hp=>hm.perm (.cons _ (.cons _ (.cons _ (.cons _ (.cons _ hp))))))
  (fun p n cap g b F i w c hm hi ha=>?_) hm) (fun v w hR=>?_)
 ·
  subst jF
  obtain ⟨U1,qo,rfl⟩:=hq.bS Jf Tb hi
  have KA:=(Le.1 hi).1
  obtain rfl:=ha.QB QM Tb
  have Bq:=HD (cs:=cs) (i:=i) Ta
  refine Yw.of dV (hm.get (k:=0) rfl) rfl rfl<|au 8 ?_
  refine Xf hm 0 rfl fun w hm=>au 6 ?_
  refine Ja rfl rfl (JU rfl ag60.h (hq.Jj hm.to).nt Jf hi)<|au 1 ?_
  refine cA rfl rfl rfl (C.as (v:=.bool false) (HC c.cm c.d.p c.d.cap p cap _ _ (b6 c (Ld hi)) (ha.rd hm 5 rfl) Ta (N8 b6 i)) (LM Value.bool (P3 i c hi))) hm fun w hm=>au 5 ?_
  exact gz hm 0 rfl fun w hm=>⟨rfl,(hm.Jp [0,1,2,3,4,5] 6 rfl)⟩
 ·
  subst jF
  obtain ⟨rfl,F,hm⟩:=hR
  refine ⟨.ready,none,nofun,hm.get (k:=0) rfl,fun w4 oh=>?_⟩
  replace hm:=Xw hm oh
  refine au 6 ?_
  refine st hm 2 fun w hm=>?_
  refine au 3 ?_
  refine dD (ly Je rfl hm 0 rfl .one fun w hm=>⟨(.cell rfl (JN sc3.h (hm.get (k:=2) rfl) rfl) .nil),?_⟩)
  exact ⟨rfl,hm.to⟩
theorem HF(q:Tg)(cq:Nat)(cs:List aa)(w0:World)(hq:Rd w0 q (cs.flatMap JM))(hl:cs.length≤1000000)(b6:∀ c∈cs,Pl.av c.cm=0)(P3:∀ i c,cs[i]?=some c→(decide (c.k=1)&&((cs.take i).map Pl.nQ).any fun e=>(Pl.aL (Pl.br c.cm).1 (Pl.br c.cm).2 e.1 e.2).isSome)=false):C Tryz.prog 142 [.slice q cs.length cq] w0 fun v w'=>v=.agg ⟨[.int .i64 0,.int .i64 0]⟩∧Ext No w0 w':=by
 refine aH Tryz.func142 fun κ _ Je Jc hm=>?_
 refine au 2 ?_
 refine aT hm fun m1 w hm=>?_
 refine au 6 ?_
 refine cA rfl rfl rfl (DY q cq cs _ (hq.Jj hm.to) hl b6 P3) hm fun w hm=>au 8 ?_
 refine Ja rfl rfl (JA (c:=false) (VO rfl rfl) (LN (Int.lt_irrefl _)))<|au 8 ?_
 refine st hm 0 fun w hm=>?_
 refine au 4 ?_
 exact ⟨rfl,hm.to⟩
end Go.Proofs.YtaehgpeenaomcaaGreat
namespace Go.Pl
open Go Go.Cx Go.Proofs.YtaehgpeenaomcaaGreat
def jO(x:Int):Prop:=0≤x∧x≤4611686018427387903
end Go.Pl
namespace Go.Proofs.YtaehgpeenaomcaaGreat
open Go Go.Cx
theorem QK(n:Int)(w0:World)(h:0≤n∧n≤9223372036854775807):C Tryz.prog 174 [.int .i64 n] w0 fun v w'=>v=.agg ⟨[.int .u64 n,.int .i64 8]⟩∧Ext No w0 w':=by
 refine aH Tryz.func174 fun κ _ Je Jc hm=>?_
 refine au 2 ?_
 refine aT hm fun m1 w hm=>?_
 refine au 5 ?_
 refine Ja rfl rfl (JX rfl is3 it55 (iJ Ta Ta))<|au 1 ?_
 refine st hm 0 fun w hm=>?_
 refine au 4 ?_
 exact ⟨rfl,hm.to⟩
theorem nq(p:Tg)(cap:Nat)(xs:Tj)(w0:World)(hx:Rd w0 p (xs.flatMap encI))(hl:xs.length≤1000000)(aq:∀ x∈xs,Pl.jO x):C Tryz.prog 214 [.slice p xs.length cap] w0 fun v w'=>v=.bool true∧Ext No w0 w':=by
 refine aH Tryz.func214 fun κ _ Je Jc hm=>?_
 refine au 14 ?_
 refine Jg (ι:=Nat) rfl (ks:=[5,6]) Tn (fun k=>[(7,.int .i64 (k:Int))]) (fun k w=>Mem w0 w No []∧k≤xs.length) (fun k=>xs.length-k) 0 (⟨(hm.pick [] rfl),LL _⟩) Tm (fun k w hM=>?_)
 obtain ⟨hm,hk⟩:=hM
 refine au 6 ?_
 refine cd (fun ai=>?_) fun ai=>?_
 ·
  simp only [dT] at ai
  obtain ⟨x,hi⟩:∃ y_,xs[k]?=some y_:=⟨_,La Ta⟩
  obtain ⟨qb,qo,rfl⟩:=hx.bS Jq Tb hi
  have bM:=aq x (Ld hi)
  unfold Pl.jO at bM
  refine au 7 ?_
  refine Ja rfl rfl (J3 rfl sc3.h (hx.Jj hm.to).nt Jq hi rfl)<|au 7 ?_
  refine cA rfl rfl rfl (C.as (v:=.bool true) (Qw 0 x _ (by simp only [Pl.aA]; omega) (by simp only [Pl.aA]; omega)) (LM Value.bool (Pl.VU.2 bM))) hm fun w hm=>au 11 ?_
  refine next (k+1) Ta ⟨hm,Ta⟩ ⟨nx k,Tm⟩
 ·
  refine au 12 ?_
  exact ⟨rfl,hm.to⟩
theorem DZ(oo nn:Int)(H:Nat→UInt8)(q:Tg)(cq:Nat)(cs:List aa)(w0:World)(hq:Rd w0 q (cs.flatMap JM))(hl:cs.length≤1000000)(ho:Pl.jO oo)(hn:Pl.jO nn)(b6:∀ c∈cs,Pl.av c.cm=0):C Tryz.prog 172 [.agg ⟨aZ oo nn H q cs.length cq⟩] w0 fun v w'=>v=.int .i64 0∧Ext No w0 w':=by
 refine aH Tryz.func172 fun κ _ Je Jc hm=>?_
 refine au 2 ?_
 refine bT hm fun m1 w hm=>?_
 refine au 9 ?_
 refine Jb (l:=[_,_]) rfl rfl sl134.h z3.h rfl rfl rfl rfl rfl rfl rfl hm trivial fun m2 w bo hm hh=>cA rfl rfl rfl (nq _ _ [oo,nn] _ (Rd.JL (hm.get (k:=0) rfl)) Tc (by intro x hx; simp only [LR,Kd,or_false] at hx; rcases hx with rfl | rfl <;> assumption)) hm fun w hm=>au 13 ?_
 refine Jg (ι:=Nat) rfl (ks:=[13,14]) Tn (fun k=>[(15,.int .i64 (k:Int)),(3,.bool true)]) (fun k w=>Mem w0 w No [(m1,.row 26 (aZ oo nn H q cs.length cq))]∧k≤cs.length) (fun k=>cs.length-k) 0 (⟨(hm.pick [1] rfl),LL _⟩) Tm (fun k w hM=>?_)
 obtain ⟨hm,hk⟩:=hM
 refine au 6 ?_
 refine cd (fun ai=>?_) fun ai=>?_
 ·
  simp only [dT] at ai
  obtain ⟨c,hi⟩:∃ y_,cs[k]?=some y_:=⟨_,La Ta⟩
  obtain ⟨qb,qo,rfl⟩:=hq.bS Jf Tb hi
  have ko:=Pl.Jl (b6 c (Ld hi))
  have k1:c.cm.k=c.k:=rfl
  have k2:c.cm.to=c.to:=rfl
  have k3:c.cm.fr=c.fr:=rfl
  have k4:c.cm.ln=c.ln:=rfl
  have k5:c.cm.bs=c.d.bs:=rfl
  rw [k1,k2,k3,k4,k5] at ko
  refine au 7 ?_
  refine Ja rfl rfl (JU rfl ag60.h (hq.Jj hm.to).nt Jf hi)<|aT hm fun m3 w hm=>?_
  refine st hm 0 fun w hm=>?_
  refine au 15 ?_
  refine cd (fun ao=>?_) fun ao=>?_
  ·
   simp only [dT] at ao
   have cO:c.d.bs.length=0:=by rcases ko.1 with h | h; exact LM List.length h.2.2.1; omega
   refine au 9 ?_
   refine Jb (l:=[_,_,_]) rfl rfl sl134.h z3.h rfl rfl rfl rfl rfl rfl rfl hm trivial fun m4 w mV hm hh=>cA rfl rfl rfl (nq _ _ [c.to,c.fr,c.ln] _ (Rd.JL (hm.get (k:=0) rfl)) Tc (by intro x hx; simp only [LR,Kd,or_false] at hx; unfold Pl.jO; rcases hx with rfl | rfl | rfl <;> omega)) hm fun w hm=>au 5 ?_
   refine Ja rfl rfl (JA (c:=true) (V3 rfl rfl) (LQ Ta))<|au 10 ?_
   refine next (k+1) Ta ⟨(hm.pick [2] rfl),Ta⟩ ⟨nx k,Tm⟩
  ·
   simp only [dF] at ao
   refine au 2 ?_
   refine Ja rfl rfl (JA (c:=true) (V3 rfl rfl) (LQ Ta))<|au 9 ?_
   refine Jb (l:=[_]) rfl rfl sl134.h z3.h rfl rfl rfl rfl rfl rfl rfl hm trivial fun m4 w mV hm hh=>cA rfl rfl rfl (nq _ _ [c.to] _ (Rd.JL (hm.get (k:=0) rfl)) Tc (by intro x hx; rw [Lf.1 hx]; unfold Pl.jO; omega)) hm fun w hm=>au 4 ?_
   refine Ja rfl rfl (JA (c:=true) (V3 rfl rfl) (LQ Ta))<|au 4 ?_
   refine Ja rfl rfl (JA (c:=true) (V3 rfl rfl) (LQ Ta))<|au 10 ?_
   refine next (k+1) Ta ⟨(hm.pick [2] rfl),Ta⟩ ⟨nx k,Tm⟩
 ·
  refine au 22 ?_
  exact ⟨rfl,hm.to⟩
end Go.Proofs.YtaehgpeenaomcaaGreat
namespace Go.Pl
open Go Go.Cx Go.Proofs.YtaehgpeenaomcaaGreat
def hl(H:Nat→UInt8)(o:Nat):List UInt8:=(List.range 32).map fun i=>H (o+i)
def yx:List UInt8:=[71,82,70,84]
def N'(oo nn:Int):List UInt8:=Pl.yx++Pl.Vl [(1,1),(oo,8),(nn,8)]
def gZ(oo nn:Int)(H:Nat→UInt8)(n:Nat):List UInt8:=Pl.N' oo nn++Pl.hl H 0++Pl.hl H 32++Pl.Vl [((n:Int),4)]
def KC(c:Pl.Cm):List (Int×Int):=[(c.k,1),(c.to,8)]++(if c.k=1 then [(c.fr,8),(c.ln,8)] else [((c.bs.length:Int),8)])
def ey(c:Pl.Cm):List UInt8:=Pl.Vl (Pl.KC c)++(if c.k=1 then [] else c.bs)
def eU(oo nn:Int)(H:Nat→UInt8)(cs:List Pl.Cm):List UInt8:=Pl.gZ oo nn H cs.length++cs.flatMap Pl.ey
end Go.Pl
namespace Go.Proofs.YtaehgpeenaomcaaGreat
open Go Go.Cx
theorem Xb{v:Int}(h:v≤4611686018427387903):Pl.fits v 8=true:=by
 unfold Pl.fits
 rw [LO]
 exact ⟨Tb,Tb,by have:=Pl.MD; simp only [Int.reduceToNat]; omega⟩
theorem j5{v:Int}(h:v≤2):Pl.fits v 1=true:=by
 unfold Pl.fits
 rw [LO]
 exact ⟨Tb,Tb,by simp only [Int.reduceToNat]; omega⟩
theorem jbm{v:Int}(h:v≤1000):Pl.fits v 4=true:=by
 unfold Pl.fits
 rw [LO]
 exact ⟨Tb,Tb,by simp only [Int.reduceToNat]; omega⟩
theorem Y7:∀ fs:Tl,(∀ f∈fs,f.2≤8)→(Pl.Vl fs).length≤fs.length*8
 | [],_=>by simp [Pl.Vl]
 | f::r,h=>by
  have h1:=Y7 r fun x hx=>h x (LX _ hx)
  have h2:=h f (Lo ..)
  have h3:Pl.Vl (f::r)=Pl.be f.1 f.2.toNat++Pl.Vl r:=by simp [Pl.Vl]
  rw [h3,Lc,Pl.YY,Li]
  omega
theorem Oa(c:Pl.Cm):(Pl.Vl (Pl.KC c)).length≤32:=by
 have h1:=Y7 (Pl.KC c) (by unfold Pl.KC; split <;> simp)
 have h2:(Pl.KC c).length≤4:=by unfold Pl.KC; split <;> simp
 omega
theorem rz(oo nn:Int)(H:Nat→UInt8)(n:Nat):(Pl.gZ oo nn H n).length≤200:=by
 have h1:=Y7 [(1,1),(oo,8),(nn,8)] Tc
 have h2:=Y7 [((n:Int),4)] Tc
 simp only [Li,LA] at h1 h2
 simp only [Pl.gZ,Pl.N',Pl.yx,Pl.hl,Lc,Lj,List.length_range,Li,LA]
 omega
theorem yy{cs:List Pl.Cm}(h:∀ c∈cs,c.bs.length≤1000000):(cs.flatMap Pl.ey).length≤cs.length*1000100:=by
 induction cs with
 | nil=>simp
 | cons c r ih=>
  have h1:=ih fun x hx=>h x (LX _ hx)
  have h2:=Oa c
  have h3:=h c (Lo ..)
  have h4:(Pl.ey c).length≤1000100:=by unfold Pl.ey; rw [Lc]; split <;> (try simp only [LA]) <;> omega
  rw [Lk,Lc,Li]
  omega
theorem D0{w:World}{g:Nat}{e:TypeId}{l:Ti}(h:w.heap[g]?=some (ag.row e l).Jd)(o n:Nat):Rd w (some ⟨g,o,none⟩) ((l.drop o).take n):=Rd.row h fun j v hj=>by
 rw [LF] at hj
 split at hj
 · rwa [Kc] at hj
 · cases hj
theorem U3(oo nn:Int)(H:Nat→UInt8)(p:Tg)(n cap:Nat):((aZ oo nn H p n cap).drop 2).take 32=(Pl.hl H 0).flatMap Jk:=by kernel_rfl
theorem U4(oo nn:Int)(H:Nat→UInt8)(p:Tg)(n cap:Nat):((aZ oo nn H p n cap).drop 34).take 32=(Pl.hl H 32).flatMap Jk:=by kernel_rfl
theorem U5(H:Nat→UInt8)(o:Nat):((Pl.hl H o).flatMap Jk).length=32*1:=by
 rw [JW JG,Pl.hl,Lj,List.length_range]
theorem pQ{cs:List aa}{k:Nat}{c:aa}(h:cs[k]?=some c)(P:Th){x:Th}(hx:Pl.ey c.cm=x):P++((cs.take (k+1)).map aa.cm).flatMap Pl.ey=P++((cs.take k).map aa.cm).flatMap Pl.ey++x:=by
 rw [← hx,LC,h,Lx,Lh,Lp]
 simp
theorem XU(p:Tg)(cap:Nat)(bs:Th)(q:Tg)(cq:Nat)(fs:Tl)(w0:World)(hx:Rd w0 p (bs.flatMap Jk))(hy:Rd w0 q (fs.flatMap Gm))(hlen:bs.length≤1099511627776)(hl:fs.length≤1099511627776)(aq:∀ f∈fs,Pl.okF f)(b7:Pl.V6 fs=true):C Tryz.prog 173 [.slice p bs.length cap,.slice q fs.length cq] w0 fun v w'=>∃ p n cap g b,v=.tuple ⟨[.slice p n cap,.bool true]⟩∧Acc 5 1 p n cap ((bs++Pl.Vl fs).flatMap Jk) g b∧Mem w0 w' No [(g,b)]:=
 (tZ p cap bs q cq fs w0 hx hy hlen hl aq).mono fun v w' h=>by
  obtain ⟨p,n,cap,g,b,h1,h2,h3⟩:=h
  unfold Pl.vP at h2
  rw [b7] at h1 h2
  exact ⟨p,n,cap,g,b,h1,h2,h3⟩
theorem D3(oo nn:Int)(H:Nat→UInt8)(q:Tg)(cq:Nat)(cs:List aa)(w0:World)(hq:Rd w0 q (cs.flatMap JM))(hl:cs.length≤1000)(aq:∀ c∈cs,Q1 w0 c)(cO:∀ c∈cs,c.d.bs.length≤1000000)(ho:Pl.jO oo)(hn:Pl.jO nn)(b6:∀ c∈cs,Pl.av c.cm=0):C Tryz.prog 143 [.agg ⟨aZ oo nn H q cs.length cq⟩] w0 fun v w'=>∃ p n cap g b,v=.tuple ⟨[.slice p n cap,.int .i64 0]⟩∧Acc 5 1 p n cap ((Pl.eU oo nn H (cs.map aa.cm)).flatMap Jk) g b∧Mem w0 w' No [(g,b)]:=by
 have ho9:=ho
 have jbn:=hn
 unfold Pl.jO at ho hn
 have FG:(Pl.yx++Pl.Vl [(1,1),(oo,8),(nn,8)]).length≤200:=by have:=rz oo nn H 0; simp only [Pl.gZ,Pl.N',Lc] at this ⊢; omega
 refine aH Tryz.func143 fun κ _ Je Jc hm=>?_
 refine au 2 ?_
 refine bT hm fun m1 w hm=>?_
 refine au 7 ?_
 refine Ja rfl rfl (Jm (s:=67) (vs:=aZ oo nn H _ cs.length cq) rfl ag26.h (hm.nt 0 rfl) rfl)<|cA rfl rfl rfl (DZ oo nn H q cq cs _ (hq.Jj hm.to) Ta ho9 jbn b6) hm fun w hm=>au 6 ?_
 refine Ja rfl rfl (JA (c:=false) (XD rfl rfl) Tb)<|au 5 ?_
 refine Xc (ι:=Ow) rfl (ks:=[1,2,3]) Tn (fun y=>[(5,.slice y.p y.n y.cap)]) (fun y w=>Mem w0 w No [(y.g,y.b),(m1,.row 26 (aZ oo nn H q cs.length cq))]∧Acc 5 1 y.p y.n y.cap ((Pl.yx++Pl.Vl [(1,1),(oo,8),(nn,8)]).flatMap Jk) y.g y.b) ?_ (fun y w hM=>?_)
 ·
  refine JS (.pure 2 (.pure 3 (.pure 4 (.pure 6 (.pure 7 (.act2 0 (.act2 1 (.act 5 (.act 8 (.act 9 (.act 10 (.pure 11 (.pure 12 (.pure 13 (.pure 14 (.pure 15 .done))))))))) 5 (.act2 1 (.act 8 (.act 9 (.act 10 (.pure 11 (.pure 12 (.pure 13 (.pure 14 (.pure 15 .done)))))))) 8 (.act2 1 (.act 9 (.act 10 (.pure 11 (.pure 12 (.pure 13 (.pure 14 (.pure 15 .done))))))) 9 (.act 1 (.act 10 (.pure 11 (.pure 12 (.pure 13 (.pure 14 (.pure 15 .done)))))))))) 5 (.act2 0 (.act2 1 (.act 8 (.act 9 (.act 10 (.pure 11 (.pure 12 (.pure 13 (.pure 14 (.pure 15 .done)))))))) 8 (.act2 1 (.act 9 (.act 10 (.pure 11 (.pure 12 (.pure 13 (.pure 14 (.pure 15 .done))))))) 9 (.act 1 (.act 10 (.pure 11 (.pure 12 (.pure 13 (.pure 14 (.pure 15 .done))))))))) 8 (.act2 0 (.act2 1 (.act 9 (.act 10 (.pure 11 (.pure 12 (.pure 13 (.pure 14 (.pure 15 .done))))))) 9 (.act 1 (.act 10 (.pure 11 (.pure 12 (.pure 13 (.pure 14 (.pure 15 .done)))))))) 9 (.act 0 (.act 1 (.act 10 (.pure 11 (.pure 12 (.pure 13 (.pure 14 (.pure 15 .done)))))))))))))))) No fP Te hm fun w hw ar hh=>?_
  have hm:=ar
  refine au 5 ?_
  refine QN ?_ ?_
  ·
   refine Jb (l:=[_,_,_,_]) rfl rfl sl22.h z5.h rfl rfl rfl rfl rfl rfl rfl hm hh fun mg w ez hm hh=>QN ?_ ?_
   ·
    refine XT rfl rfl rfl cb22 hm 0 rfl hh ez fun w hm hh=>cB rfl rfl rfl (QK oo _ Ta) hm hh fun w hm hh=>cB rfl rfl rfl (QK nn _ Ta) hm hh fun w hm hh=>Jb (l:=[_,_,_,_,_,_]) rfl rfl sl267.h z265.h rfl rfl rfl rfl rfl rfl rfl hm hh fun fd w hG hm hh=>ca rfl rfl rfl (XU _ _ Pl.yx _ _ [(1,1),(oo,8),(nn,8)] _ (Rd.o9 (hm.get (k:=1) rfl)) (Rd.JL (hm.get (k:=0) rfl)) Tb Tc (by simp only [LR,Kd,or_false,forall_eq_or_imp,forall_eq,Pl.okF,Pl.aA]; omega) (by simp only [Pl.V6,List.all_cons,List.all_nil,Xb ho.2,Xb hn.2,j5 (show (1:Int)≤2 by decide),Bool.and_self])) fun v w hR=>?_
    obtain ⟨aK,dE,aj,aI,aF,rfl,ah,ae⟩:=hR
    refine ⟨hh.ext ae.to,?_⟩
    replace hh:=hh.ext ae.to
    replace hm:=hm.Jt ae
    obtain rfl:=ah.J0
    refine au 6 ?_
    exact Qt ⟨aK,_,aj,aI,aF⟩ ⟨(hm.pick [0,3] rfl),ah⟩ Tm
   ·
    refine cB rfl rfl rfl (QK oo _ Ta) hm hh fun w hm hh=>QN ?_ ?_
    ·
     refine XT rfl rfl rfl cb22 hm 0 rfl hh ez fun w hm hh=>cB rfl rfl rfl (QK nn _ Ta) hm hh fun w hm hh=>Jb (l:=[_,_,_,_,_,_]) rfl rfl sl267.h z265.h rfl rfl rfl rfl rfl rfl rfl hm hh fun fd w hG hm hh=>ca rfl rfl rfl (XU _ _ Pl.yx _ _ [(1,1),(oo,8),(nn,8)] _ (Rd.o9 (hm.get (k:=1) rfl)) (Rd.JL (hm.get (k:=0) rfl)) Tb Tc (by simp only [LR,Kd,or_false,forall_eq_or_imp,forall_eq,Pl.okF,Pl.aA]; omega) (by simp only [Pl.V6,List.all_cons,List.all_nil,Xb ho.2,Xb hn.2,j5 (show (1:Int)≤2 by decide),Bool.and_self])) fun v w hR=>?_
     obtain ⟨aK,dE,aj,aI,aF,rfl,ah,ae⟩:=hR
     refine ⟨hh.ext ae.to,?_⟩
     replace hh:=hh.ext ae.to
     replace hm:=hm.Jt ae
     obtain rfl:=ah.J0
     refine au 6 ?_
     exact Qt ⟨aK,_,aj,aI,aF⟩ ⟨(hm.pick [0,3] rfl),ah⟩ Tm
    ·
     refine cB rfl rfl rfl (QK nn _ Ta) hm hh fun w hm hh=>QN ?_ ?_
     ·
      refine XT rfl rfl rfl cb22 hm 0 rfl hh ez fun w hm hh=>Jb (l:=[_,_,_,_,_,_]) rfl rfl sl267.h z265.h rfl rfl rfl rfl rfl rfl rfl hm hh fun fd w hG hm hh=>ca rfl rfl rfl (XU _ _ Pl.yx _ _ [(1,1),(oo,8),(nn,8)] _ (Rd.o9 (hm.get (k:=1) rfl)) (Rd.JL (hm.get (k:=0) rfl)) Tb Tc (by simp only [LR,Kd,or_false,forall_eq_or_imp,forall_eq,Pl.okF,Pl.aA]; omega) (by simp only [Pl.V6,List.all_cons,List.all_nil,Xb ho.2,Xb hn.2,j5 (show (1:Int)≤2 by decide),Bool.and_self])) fun v w hR=>?_
      obtain ⟨aK,dE,aj,aI,aF,rfl,ah,ae⟩:=hR
      refine ⟨hh.ext ae.to,?_⟩
      replace hh:=hh.ext ae.to
      replace hm:=hm.Jt ae
      obtain rfl:=ah.J0
      refine au 6 ?_
      exact Qt ⟨aK,_,aj,aI,aF⟩ ⟨(hm.pick [0,3] rfl),ah⟩ Tm
     ·
      refine Jb (l:=[_,_,_,_,_,_]) rfl rfl sl267.h z265.h rfl rfl rfl rfl rfl rfl rfl hm hh fun fd w hG hm hh=>XT rfl rfl rfl cb22 hm 1 rfl hh ez fun w hm hh=>ca rfl rfl rfl (XU _ _ Pl.yx _ _ [(1,1),(oo,8),(nn,8)] _ (Rd.o9 (hm.get (k:=1) rfl)) (Rd.JL (hm.get (k:=0) rfl)) Tb Tc (by simp only [LR,Kd,or_false,forall_eq_or_imp,forall_eq,Pl.okF,Pl.aA]; omega) (by simp only [Pl.V6,List.all_cons,List.all_nil,Xb ho.2,Xb hn.2,j5 (show (1:Int)≤2 by decide),Bool.and_self])) fun v w hR=>?_
      obtain ⟨aK,dE,aj,aI,aF,rfl,ah,ae⟩:=hR
      refine ⟨hh.ext ae.to,?_⟩
      replace hh:=hh.ext ae.to
      replace hm:=hm.Jt ae
      obtain rfl:=ah.J0
      refine au 6 ?_
      exact Qt ⟨aK,_,aj,aI,aF⟩ ⟨(hm.pick [0,3] rfl),ah⟩ Tm
  ·
   refine cB rfl rfl rfl (QK oo _ Ta) hm hh fun w hm hh=>QN ?_ ?_
   ·
    refine Jb (l:=[_,_,_,_]) rfl rfl sl22.h z5.h rfl rfl rfl rfl rfl rfl rfl hm hh fun mg w ez hm hh=>QN ?_ ?_
    ·
     refine XT rfl rfl rfl cb22 hm 0 rfl hh ez fun w hm hh=>cB rfl rfl rfl (QK nn _ Ta) hm hh fun w hm hh=>Jb (l:=[_,_,_,_,_,_]) rfl rfl sl267.h z265.h rfl rfl rfl rfl rfl rfl rfl hm hh fun fd w hG hm hh=>ca rfl rfl rfl (XU _ _ Pl.yx _ _ [(1,1),(oo,8),(nn,8)] _ (Rd.o9 (hm.get (k:=1) rfl)) (Rd.JL (hm.get (k:=0) rfl)) Tb Tc (by simp only [LR,Kd,or_false,forall_eq_or_imp,forall_eq,Pl.okF,Pl.aA]; omega) (by simp only [Pl.V6,List.all_cons,List.all_nil,Xb ho.2,Xb hn.2,j5 (show (1:Int)≤2 by decide),Bool.and_self])) fun v w hR=>?_
     obtain ⟨aK,dE,aj,aI,aF,rfl,ah,ae⟩:=hR
     refine ⟨hh.ext ae.to,?_⟩
     replace hh:=hh.ext ae.to
     replace hm:=hm.Jt ae
     obtain rfl:=ah.J0
     refine au 6 ?_
     exact Qt ⟨aK,_,aj,aI,aF⟩ ⟨(hm.pick [0,3] rfl),ah⟩ Tm
    ·
     refine cB rfl rfl rfl (QK nn _ Ta) hm hh fun w hm hh=>QN ?_ ?_
     ·
      refine XT rfl rfl rfl cb22 hm 0 rfl hh ez fun w hm hh=>Jb (l:=[_,_,_,_,_,_]) rfl rfl sl267.h z265.h rfl rfl rfl rfl rfl rfl rfl hm hh fun fd w hG hm hh=>ca rfl rfl rfl (XU _ _ Pl.yx _ _ [(1,1),(oo,8),(nn,8)] _ (Rd.o9 (hm.get (k:=1) rfl)) (Rd.JL (hm.get (k:=0) rfl)) Tb Tc (by simp only [LR,Kd,or_false,forall_eq_or_imp,forall_eq,Pl.okF,Pl.aA]; omega) (by simp only [Pl.V6,List.all_cons,List.all_nil,Xb ho.2,Xb hn.2,j5 (show (1:Int)≤2 by decide),Bool.and_self])) fun v w hR=>?_
      obtain ⟨aK,dE,aj,aI,aF,rfl,ah,ae⟩:=hR
      refine ⟨hh.ext ae.to,?_⟩
      replace hh:=hh.ext ae.to
      replace hm:=hm.Jt ae
      obtain rfl:=ah.J0
      refine au 6 ?_
      exact Qt ⟨aK,_,aj,aI,aF⟩ ⟨(hm.pick [0,3] rfl),ah⟩ Tm
     ·
      refine Jb (l:=[_,_,_,_,_,_]) rfl rfl sl267.h z265.h rfl rfl rfl rfl rfl rfl rfl hm hh fun fd w hG hm hh=>XT rfl rfl rfl cb22 hm 1 rfl hh ez fun w hm hh=>ca rfl rfl rfl (XU _ _ Pl.yx _ _ [(1,1),(oo,8),(nn,8)] _ (Rd.o9 (hm.get (k:=1) rfl)) (Rd.JL (hm.get (k:=0) rfl)) Tb Tc (by simp only [LR,Kd,or_false,forall_eq_or_imp,forall_eq,Pl.okF,Pl.aA]; omega) (by simp only [Pl.V6,List.all_cons,List.all_nil,Xb ho.2,Xb hn.2,j5 (show (1:Int)≤2 by decide),Bool.and_self])) fun v w hR=>?_
      obtain ⟨aK,dE,aj,aI,aF,rfl,ah,ae⟩:=hR
      refine ⟨hh.ext ae.to,?_⟩
      replace hh:=hh.ext ae.to
      replace hm:=hm.Jt ae
      obtain rfl:=ah.J0
      refine au 6 ?_
      exact Qt ⟨aK,_,aj,aI,aF⟩ ⟨(hm.pick [0,3] rfl),ah⟩ Tm
   ·
    refine cB rfl rfl rfl (QK nn _ Ta) hm hh fun w hm hh=>QN ?_ ?_
    ·
     refine Jb (l:=[_,_,_,_]) rfl rfl sl22.h z5.h rfl rfl rfl rfl rfl rfl rfl hm hh fun mg w ez hm hh=>QN ?_ ?_
     ·
      refine XT rfl rfl rfl cb22 hm 0 rfl hh ez fun w hm hh=>Jb (l:=[_,_,_,_,_,_]) rfl rfl sl267.h z265.h rfl rfl rfl rfl rfl rfl rfl hm hh fun fd w hG hm hh=>ca rfl rfl rfl (XU _ _ Pl.yx _ _ [(1,1),(oo,8),(nn,8)] _ (Rd.o9 (hm.get (k:=1) rfl)) (Rd.JL (hm.get (k:=0) rfl)) Tb Tc (by simp only [LR,Kd,or_false,forall_eq_or_imp,forall_eq,Pl.okF,Pl.aA]; omega) (by simp only [Pl.V6,List.all_cons,List.all_nil,Xb ho.2,Xb hn.2,j5 (show (1:Int)≤2 by decide),Bool.and_self])) fun v w hR=>?_
      obtain ⟨aK,dE,aj,aI,aF,rfl,ah,ae⟩:=hR
      refine ⟨hh.ext ae.to,?_⟩
      replace hh:=hh.ext ae.to
      replace hm:=hm.Jt ae
      obtain rfl:=ah.J0
      refine au 6 ?_
      exact Qt ⟨aK,_,aj,aI,aF⟩ ⟨(hm.pick [0,3] rfl),ah⟩ Tm
     ·
      refine Jb (l:=[_,_,_,_,_,_]) rfl rfl sl267.h z265.h rfl rfl rfl rfl rfl rfl rfl hm hh fun fd w hG hm hh=>XT rfl rfl rfl cb22 hm 1 rfl hh ez fun w hm hh=>ca rfl rfl rfl (XU _ _ Pl.yx _ _ [(1,1),(oo,8),(nn,8)] _ (Rd.o9 (hm.get (k:=1) rfl)) (Rd.JL (hm.get (k:=0) rfl)) Tb Tc (by simp only [LR,Kd,or_false,forall_eq_or_imp,forall_eq,Pl.okF,Pl.aA]; omega) (by simp only [Pl.V6,List.all_cons,List.all_nil,Xb ho.2,Xb hn.2,j5 (show (1:Int)≤2 by decide),Bool.and_self])) fun v w hR=>?_
      obtain ⟨aK,dE,aj,aI,aF,rfl,ah,ae⟩:=hR
      refine ⟨hh.ext ae.to,?_⟩
      replace hh:=hh.ext ae.to
      replace hm:=hm.Jt ae
      obtain rfl:=ah.J0
      refine au 6 ?_
      exact Qt ⟨aK,_,aj,aI,aF⟩ ⟨(hm.pick [0,3] rfl),ah⟩ Tm
    ·
     refine Jb (l:=[_,_,_,_,_,_]) rfl rfl sl267.h z265.h rfl rfl rfl rfl rfl rfl rfl hm hh fun fd w hG hm hh=>Jb (l:=[_,_,_,_]) rfl rfl sl22.h z5.h rfl rfl rfl rfl rfl rfl rfl hm hh fun mg w ez hm hh=>XT rfl rfl rfl cb22 hm 0 rfl hh ez fun w hm hh=>ca rfl rfl rfl (XU _ _ Pl.yx _ _ [(1,1),(oo,8),(nn,8)] _ (Rd.o9 (hm.get (k:=0) rfl)) (Rd.JL (hm.get (k:=1) rfl)) Tb Tc (by simp only [LR,Kd,or_false,forall_eq_or_imp,forall_eq,Pl.okF,Pl.aA]; omega) (by simp only [Pl.V6,List.all_cons,List.all_nil,Xb ho.2,Xb hn.2,j5 (show (1:Int)≤2 by decide),Bool.and_self])) fun v w hR=>?_
     obtain ⟨aK,dE,aj,aI,aF,rfl,ah,ae⟩:=hR
     refine ⟨hh.ext ae.to,?_⟩
     replace hh:=hh.ext ae.to
     replace hm:=hm.Jt ae
     obtain rfl:=ah.J0
     refine au 6 ?_
     exact Qt ⟨aK,_,aj,aI,aF⟩ ⟨(hm.pick [0,3] rfl),ah⟩ Tm
 ·
  obtain ⟨aK,dE,aj,aI,aF⟩:=y
  obtain ⟨hm,ah⟩:=hM
  simp only at hm ah ⊢
  obtain rfl:=ah.J0
  refine au 1 ?_
  refine JS (.pure 0 (.pure 1 (.pure 2 (.pure 4 (.pure 5 (.act 3 (.cut (.act 6 (.pure 7 .done))))))))) (fun j=>(j=aI∧aF.real=true)) fP Te hm fun w hw ar hh=>?_
  have hm:=ar
  refine au 2 ?_
  refine Ja rfl rfl (Yx (ln:=0) (hn:=32) rfl ar23 rfl rfl Ta Ta Ta)<|au 1 ?_
  refine Ja rfl rfl (Yx (ln:=0) (hn:=32) rfl ar23 rfl rfl Ta Ta Ta)<|Xm rfl rfl rfl rfl rfl rfl sl22.h sl22.h z5.h rfl (Zl _) (U3 oo nn H q cs.length cq▸D0 (hm.get (k:=1) rfl) 2 32) (U5 H 0) ah hm 0 rfl Ta Ta hh (fun hr=>.inr ⟨rfl,hr⟩) fun aK aj aI aF w _ ah hm hh q6=>au 1 ?_
  refine Jy rfl rfl rfl rfl rfl rfl sl22.h sl22.h z5.h rfl (Zl _) (U4 oo nn H q cs.length cq▸D0 (hm.get (k:=1) rfl) 34 32) (U5 H 32) ah hm 0 rfl Ta Ta fun aK aj aI aF w ah hm=>?_
  replace ah:=ah.to (show _=(Pl.N' oo nn++Pl.hl H 0++Pl.hl H 32).flatMap Jk by simp only [Pl.N',Lh])
  have Bt:=ah.J0
  have mR:(Pl.N' oo nn++Pl.hl H 0++Pl.hl H 32).length≤300:=by omega
  refine au 9 ?_
  refine Ja rfl rfl (JX rfl is3 it55 (iJ Ta Ta))<|au 1 ?_
  refine Jb (l:=[_,_]) rfl rfl sl267.h z265.h rfl rfl rfl rfl rfl rfl rfl hm trivial fun m22 w jbo hm hh=>cT rfl rfl rfl (C.eqv (XU aK aj (Pl.N' oo nn++Pl.hl H 0++Pl.hl H 32) _ 1 [((cs.length:Int),4)] _ (ah.rd hm 1 rfl) (Rd.JL (hm.get (k:=0) rfl)) Ta Tc (by simp only [LR,Kd,or_false,forall_eq_or_imp,forall_eq,Pl.okF,Pl.aA]; omega) (by simp only [Pl.V6,List.all_cons,List.all_nil,jbm (show (cs.length:Int)≤1000 by omega),Bool.and_self])) (by rw [← Bt]; rfl)) fun v w hR=>?_
  obtain ⟨bU,nm,aB,cQ,cL,rfl,ay,ae⟩:=hR
  replace hm:=hm.Jt ae
  obtain rfl:=ay.J0
  refine au 17 ?_
  refine Jg (ι:=Nat×Ow) rfl (ks:=[2,3,7,49,50]) Tn (fun x=>[(51,.int .i64 (x.1:Int)),(5,.slice x.2.p x.2.n x.2.cap)]) (fun x w=>Mem w0 w No [(x.2.g,x.2.b),(m1,.row 26 (aZ oo nn H q cs.length cq))]∧Acc 5 1 x.2.p x.2.n x.2.cap ((Pl.gZ oo nn H cs.length++((cs.take x.1).map aa.cm).flatMap Pl.ey).flatMap Jk) x.2.g x.2.b∧x.1≤cs.length) (fun x=>cs.length-x.1) (0,⟨bU,_,aB,cQ,cL⟩) (⟨(hm.pick [0,3] rfl),ay.to (by simp [Pl.gZ]),LL _⟩) Tm (fun x w hM=>?_)
  obtain ⟨k,aK,dE,aj,aI,aF⟩:=x
  obtain ⟨hm,ah,hk⟩:=hM
  simp only at hm ah hk
  obtain rfl:=ah.J0
  refine au 6 ?_
  refine cd (fun ao=>?_) fun ao=>?_
  ·
   simp only [dT] at ao
   obtain ⟨c,hi⟩:∃ y_,cs[k]?=some y_:=⟨_,La Ta⟩
   obtain ⟨qb,qo,rfl⟩:=hq.bS Jf Tb hi
   have lQ:=Ld hi
   have ko:=Pl.Jl (b6 c lQ)
   have k1:c.cm.k=c.k:=rfl
   have k2:c.cm.to=c.to:=rfl
   have k3:c.cm.fr=c.fr:=rfl
   have k4:c.cm.ln=c.ln:=rfl
   have k5:c.cm.bs=c.d.bs:=rfl
   rw [k1,k2,k3,k4,k5] at ko
   have zW:=cO c lQ
   have N7:=yy (cs:=(cs.take k).map aa.cm) (fun d hd=>by obtain ⟨e,he,rfl⟩:=Ln.1 hd; exact cO e (List.mem_of_mem_take he))
   rw [Lj,Lg] at N7
   have hfp:=rz oo nn H cs.length
   have hAl:(Pl.gZ oo nn H cs.length++((cs.take k).map aa.cm).flatMap Pl.ey).length≤10000000000:=by rw [Lc]; omega
   refine au 7 ?_
   refine Ja rfl rfl (JU rfl ag60.h (hq.Jj hm.to).nt Jf hi)<|aT hm fun m23 w hm=>?_
   refine st hm 0 fun w hm=>?_
   refine au 3 ?_
   refine dw [0,3,6,9,12,15,19,2,22,24] hm fun w hw ar hh hm=>?_
   refine au 2 ?_
   refine Ja rfl rfl (JX rfl is3 it55 (iJ Ta Ta))<|au 3 ?_
   refine cB rfl rfl rfl (QK c.to _ Ta) hm hh fun w hm hh=>au 1 ?_
   refine Jb (l:=[_,_,_,_]) rfl rfl sl267.h z265.h rfl rfl rfl rfl rfl rfl rfl hm trivial fun hd w jcm hm hh=>au 11 ?_
   refine cd (fun aD=>?_) fun aD=>?_
   ·
    simp only [dT] at aD
    have fB:((Pl.gZ oo nn H cs.length++((cs.take k).map aa.cm).flatMap Pl.ey)++Pl.Vl [(c.k,1),(c.to,8),(c.fr,8),(c.ln,8)]).flatMap Jk=((Pl.gZ oo nn H cs.length++((cs.take (k+1)).map aa.cm).flatMap Pl.ey).flatMap Jk):=by
     rw [pQ hi _ (show Pl.ey c.cm=Pl.Vl [(c.k,1),(c.to,8),(c.fr,8),(c.ln,8)]++[] by unfold Pl.ey Pl.KC; rw [k1,LI aD,LI aD]; rfl),Lq]
    refine au 1 ?_
    refine JS (.pure 0 (.pure 1 (.pure 2 (.pure 3 (.pure 5 (.pure 6 (.act 4 (.act 7 (.act 8 (.act 9 (.act 10 (.pure 11 (.pure 12 (.pure 13 (.pure 14 .done))))))))))))))) (fun j=>j=hd) fP Te hm fun w hw ar hh=>?_
    have hm:=ar
    refine au 3 ?_
    refine Ja rfl rfl (Jh rfl sc3.h (ar.nd 1 rfl (ar.ne 1 0 rfl rfl rfl)) rfl)<|au 1 ?_
    refine Ja rfl rfl (Jh rfl sc3.h (ar.nd 1 rfl (ar.ne 1 0 rfl rfl rfl)) rfl)<|cB rfl rfl rfl (QK c.fr _ Ta) hm hh fun w hm hh=>cB rfl rfl rfl (QK c.ln _ Ta) hm hh fun w hm hh=>Jb (l:=[_,_,_,_]) rfl rfl sl267.h z265.h rfl rfl rfl rfl rfl rfl rfl hm hh fun m24 w Ob hm hh=>Xm rfl rfl rfl rfl rfl rfl sl267.h sl267.h z265.h rfl rfl (Rd.JL (hm.get (k:=0) rfl)) rfl (Acc.row rfl) hm 1 rfl Ta Ta hh (fun _=>.inr rfl) fun p_h KD g_h b_h w _ wQ hm hh hg_h=>ca rfl rfl rfl (XU _ _ (Pl.gZ oo nn H cs.length++((cs.take k).map aa.cm).flatMap Pl.ey) _ _ [(c.k,1),(c.to,8),(c.fr,8),(c.ln,8)] _ (ah.rd hm 3 rfl) (wQ.rd hm 1 rfl) Ta Tc (by simp only [LR,Kd,or_false,forall_eq_or_imp,forall_eq,Pl.okF,Pl.aA]; omega) (by simp only [Pl.V6,List.all_cons,List.all_nil,Xb (show c.to≤4611686018427387903 by omega),Xb (show c.fr≤4611686018427387903 by omega),Xb (show c.ln≤4611686018427387903 by omega),j5 (show c.k≤2 by omega),Bool.and_self])) fun v w hR=>?_
    obtain ⟨NO,n_t,jI,NP,NQ,rfl,rk,ae⟩:=hR
    refine ⟨hh.ext ae.to,?_⟩
    replace hh:=hh.ext ae.to
    replace hm:=hm.Jt ae
    obtain rfl:=rk.J0
    refine au 14 ?_
    exact next (k+1,⟨NO,_,jI,NP,NQ⟩) Td ⟨(hm.pick [0,5] rfl),rk.to fB,Td⟩ ⟨nx k,Tm⟩
   ·
    simp only [dF] at aD
    have fB:((Pl.gZ oo nn H cs.length++((cs.take k).map aa.cm).flatMap Pl.ey)++Pl.Vl [(c.k,1),(c.to,8),((c.d.bs.length:Int),8)]).flatMap Jk++c.d.bs.flatMap Jk=((Pl.gZ oo nn H cs.length++((cs.take (k+1)).map aa.cm).flatMap Pl.ey).flatMap Jk):=by
     rw [pQ hi _ (show Pl.ey c.cm=Pl.Vl [(c.k,1),(c.to,8),((c.d.bs.length:Int),8)]++c.d.bs by unfold Pl.ey Pl.KC; rw [k1,LH aD,LH aD]; rfl)]
     simp only [Lh,Lp]
    refine au 9 ?_
    refine cA rfl rfl rfl (QK c.d.bs.length _ Ta) hm fun w hm=>Jb (l:=[_,_]) rfl rfl sl267.h z265.h rfl rfl rfl rfl rfl rfl rfl hm trivial fun m24 w Ob hm hh=>Jy rfl rfl rfl rfl rfl rfl sl267.h sl267.h z265.h rfl rfl (Rd.JL (hm.get (k:=0) rfl)) rfl (Acc.row rfl) hm 1 rfl Ta Ta fun p_h KD g_h b_h w wQ hm=>cT rfl rfl rfl (XU _ _ (Pl.gZ oo nn H cs.length++((cs.take k).map aa.cm).flatMap Pl.ey) _ _ [(c.k,1),(c.to,8),((c.d.bs.length:Int),8)] _ (ah.rd hm 3 rfl) (wQ.rd hm 1 rfl) Ta Tc (by simp only [LR,Kd,or_false,forall_eq_or_imp,forall_eq,Pl.okF,Pl.aA]; omega) (by simp only [Pl.V6,List.all_cons,List.all_nil,Xb (show c.to≤4611686018427387903 by omega),Xb (show (c.d.bs.length:Int)≤4611686018427387903 by omega),j5 (show c.k≤2 by omega),Bool.and_self])) fun v w hR=>?_
    obtain ⟨NO,n_t,jI,NP,NQ,rfl,rk,ae⟩:=hR
    replace hm:=hm.Jt ae
    obtain rfl:=rk.J0
    refine au 10 ?_
    refine Jy rfl rfl rfl rfl rfl rfl sl22.h sl22.h z5.h rfl (Zl _) ((aq c lQ).2.2.2.2.rd.Jj hm.to) (J0 _) rk hm 0 rfl (by have:=Y7 [(c.k,1),(c.to,8),((c.d.bs.length:Int),8)] Tc; simp only [Lc,Li,LA] at *; omega) (by have:=Y7 [(c.k,1),(c.to,8),((c.d.bs.length:Int),8)] Tc; simp only [Lc,Li,LA] at *; omega) fun NO jI NP NQ w rk hm=>au 8 ?_
    exact next (k+1,⟨NO,_,jI,NP,NQ⟩) Td ⟨(hm.pick [0,5] rfl),rk.to fB,Td⟩ ⟨nx k,Tm⟩
  ·
   simp only [dF] at ao
   have b8:k=cs.length:=by omega
   have wR:(Pl.gZ oo nn H cs.length++((cs.take k).map aa.cm).flatMap Pl.ey).flatMap Jk=(Pl.eU oo nn H (cs.map aa.cm)).flatMap Jk:=by rw [b8,Lv,Pl.eU,Lj]
   refine au 24 ?_
   exact ⟨_,_,_,_,_,rfl,ah.to wR,(hm.pick [0] rfl)⟩
end Go.Proofs.YtaehgpeenaomcaaGreat
namespace Go.Pl
open Go Go.Cx Go.Proofs.YtaehgpeenaomcaaGreat
def KE(bs:Th):Int:=(Pl.aJ (Pl.bu bs) ⟨0,0,0⟩ 8).2
end Go.Pl
namespace Go.Proofs.YtaehgpeenaomcaaGreat
open Go Go.Cx
theorem jbp(q:Tg)(cq:Nat)(p:Tg)(cap:Nat)(bs:Th)(w0:World)(hq:Rd w0 q [.slice p bs.length cap])(hp:Rd w0 p (bs.flatMap Jk))(hl:bs.length≤1000000000000):C Tryz.prog 145 [.slice q 1 cq] w0 fun v w'=>v=.int .u64 (Pl.KE bs)∧Ext No w0 w':=by
 refine aH Tryz.func145 fun κ _ Je Jc hm=>?_
 refine au 8 ?_
 refine cA rfl rfl rfl (Hd q cq [⟨p,cap,bs⟩] _ (hq.Jj hm.to) (by intro s9 eT; rw [Lf.1 eT]; exact hp.Jj hm.to) Tc (by simpa using hl)) hm fun w hm=>?_
 rw [show ([⟨p,cap,bs⟩]:List SB).flatMap (·.bs)=bs by simp,gS (Pl.Qz _)]
 refine aT hm fun m1 w hm=>?_
 refine st hm 0 fun w hm=>?_
 replace hm:=Xu hm rfl
 rw [← gS (Pl.Qz bs)] at hm
 refine au 4 ?_
 refine Ja rfl rfl (Yx (ln:=0) (hn:=32) rfl ar23 rfl rfl Ta Ta Ta)<|cT rfl rfl rfl (C.eqv (Kr _ 32 (Pl.bu bs) _ (Rd.JL (hm.get (k:=0) rfl)) (by rw [Pl.Qz]; decide)) (by rw [Pl.Qz])) fun v w hR=>?_
 obtain ⟨r,rh,eG,jbb,jbc,rfl,bp,ae⟩:=hR
 replace hm:=hm.Jt ae
 refine cT rfl rfl rfl (mY r _ rh eG (Pl.bu bs) ⟨0,0,0⟩ 8 _ (hm.get (k:=0) rfl) (bp.rd hm 1 rfl) (bp.apart hm 1 0 rfl rfl rfl) bp.le bp.spot (LL _) (by rw [Pl.Qz]; decide) Tb) fun v w hR=>?_
 obtain ⟨rfl,ae⟩:=hR
 replace hm:=hm.Qv 0 rfl ae
 refine au 5 ?_
 exact ⟨rfl,hm.to⟩
theorem Qp{w w':World}{m:Nat}{o:Obj}(hx:Ext No w w')(h:w.heap[m]?=some o):w'.heap[m]?=some o:=(hx.same _ (Lb.1 h).1 id).trans h
end Go.Proofs.YtaehgpeenaomcaaGreat
namespace Go.Cx
open Go Go.Cx Go.Proofs.YtaehgpeenaomcaaGreat
def ia(x:Int×Int×Int):List Value:=[.int .i64 x.1,.int .i64 x.2.1,.int .i64 x.2.2]
theorem Q8(x:Int×Int×Int):(ia x).length=3:=rfl
end Go.Cx
namespace Go.Pl
open Go Go.Cx Go.Proofs.YtaehgpeenaomcaaGreat
def Xy(x:Int×Int×Int):Int:=x.1+x.2.1
def nr(a b:Int)(x:Int×Int×Int):Bool:=(Pl.aL x.1 x.2.1 a b).isSome
def dA(es:List (Int×Int×Int))(a b:Int):List (Int×Int×Int):=(es.dropWhile fun x=>decide (Pl.Xy x≤a)).takeWhile (Pl.nr a b)
def ZB(x:Int×Int×Int):Prop:=0≤x.1∧0≤x.2.1∧x.1+x.2.1≤4611686018427387903
def U6(es:List (Int×Int×Int)):Prop:=∀ (i j:Nat) x y,i≤j→es[i]?=some x→es[j]?=some y→Pl.Xy x≤Pl.Xy y
end Go.Pl
namespace Go.Proofs.YtaehgpeenaomcaaGreat
open Go Go.Cx
theorem D4{α:Type}{p:α→Bool}:∀ {l:List α} {k:Nat} {x:α},k≤(l.takeWhile p).length→l[k]?=some x→p x=true→(l.takeWhile p)[k]?=some x
 | [],k,x,_,h,_=>by simp at h
 | a::r,k,x,hk,h,hp=>by
  cases ha:p a with
  | false => 
   rw [List.takeWhile_cons,ha] at hk
   obtain rfl:k=0:=by simpa using hk
   simp only [L2,Option.some.injEq] at h
   subst h
   rw [ha] at hp; cases hp
  | true=>
   rw [List.takeWhile_cons,ha] at hk ⊢
   cases k with
   | zero=>simpa using h
   | succ k=>
    simp only [if_true,Li,LW] at hk h ⊢
    exact D4 Ta h hp
theorem yz{α:Type}{p:α→Bool}:∀ {l:List α} {k:Nat} {x:α},k≤(l.takeWhile p).length→l[k]?=some x→p x=false→(l.takeWhile p).length=k
 | [],k,x,_,h,_=>by simp at h
 | a::r,k,x,hk,h,hp=>by
  cases ha:p a with
  | false => 
   rw [List.takeWhile_cons,ha] at hk ⊢
   have:k=0:=by simpa using hk
   simp [this]
  | true=>
   rw [List.takeWhile_cons,ha] at hk ⊢
   cases k with
   | zero => 
    simp only [L2,Option.some.injEq] at h
    subst h
    rw [ha] at hp; cases hp
   | succ k=>
    simp only [if_true,Li,LW] at hk h ⊢
    rw [yz Ta h hp]
theorem Oc{α:Type}{p:α→Bool}{l:List α}{k:Nat}(hk:k≤(l.takeWhile p).length)(h:l.length≤k):(l.takeWhile p).length=k:=by
 have:=(List.takeWhile_sublist p (l:=l)).length_le
 omega
theorem KF{α:Type}{p:α→Bool}:∀ {l:List α} {r:Nat},r≤l.length→(∀ j x,j<r→l[j]?=some x→p x=true)→(∀ x,l[r]?=some x→p x=false)→l.dropWhile p=l.drop r
 | [],r,_,_,_=>by simp
 | a::t,0,_,_,h=>by rw [List.dropWhile_cons,h a rfl]; rfl
 | a::t,r+1,hr,hj,h=>by
  rw [List.dropWhile_cons,hj 0 a Ta rfl]
  simp only [if_true,List.drop_succ_cons]
  exact KF (by simpa using hr) (fun j x h1 h2=>hj (j+1) x Ta h2) h
end Go.Proofs.YtaehgpeenaomcaaGreat
namespace Go.Pl
open Go Go.Cx Go.Proofs.YtaehgpeenaomcaaGreat
def HG(es:List (Int×Int×Int))(a:Int)(k:Nat):Bool:=match es[k]? with | some x=>decide (Pl.Xy x>a) | none=>true
end Go.Pl
namespace Go.Proofs.YtaehgpeenaomcaaGreat
open Go Go.Cx
theorem D5{es:List (Int×Int×Int)}(h:Pl.U6 es)(a:Int):∀ j k,j≤k→Pl.HG es a j=true→Pl.HG es a k=true:=fun j k vm hj=>by
 unfold Pl.HG at *
 cases hk:es[k]? with
 | none=>rfl
 | some y=>
  cases hx:es[j]? with
  | none => 
   have:=List.getElem?_eq_none_iff.1 hx
   have:=(Le.1 hk).1
   omega
  | some x=>
   rw [hx] at hj
   have:=h j k x y vm hx hk
   simp only [dT] at *
   omega
theorem D6{es:List (Int×Int×Int)}{a:Int}{r:Nat}(hr:r≤es.length)(h1:∀ j,j<r→Pl.HG es a j=false)(h2:r<es.length→Pl.HG es a r=true):es.dropWhile (fun x=>decide (Pl.Xy x≤a))=es.drop r:=by
 refine KF hr (fun j x hj hx=>?_) fun x hx=>?_
 · have:=h1 j hj
   unfold Pl.HG at this
   rw [hx] at this
   simp only [dF,dT] at *
   omega
 · have:=h2 (Le.1 hx).1
   unfold Pl.HG at this
   rw [hx] at this
   simp only [dF,dT] at *
   omega
theorem KG(mi:Nat)(q:Tg)(c:Nat)(es:List (Int×Int×Int))(w0:World)(nM:w0.heap[mi]?=some (ag.row 297 [.slice q es.length c]).Jd)(hq:Rd w0 q (es.flatMap ia))(hl:es.length≤1000000)(aq:∀ x∈es,Pl.ZB x):C Tryz.prog 198 [.pointer (some ⟨mi,0,none⟩)] w0 fun v w'=>v=.int .i64 es.length∧Ext No w0 w':=by
 refine aH Tryz.func198 fun κ _ Je Jc hm=>?_
 refine au 27 ?_
 exact ⟨rfl,hm.to⟩
theorem D7(mi:Nat)(q:Tg)(c:Nat)(es:List (Int×Int×Int))(w0:World)(nM:w0.heap[mi]?=some (ag.row 297 [.slice q es.length c]).Jd)(hq:Rd w0 q (es.flatMap ia))(hl:es.length≤1000000)(aq:∀ x∈es,Pl.ZB x)(m1 m2 k:Nat)(a:Int)(x:Int×Int×Int)(zW:w0.heap[m1]?=some (ag.row 196 [.pointer (some ⟨mi,0,none⟩)]).Jd)(M0:w0.heap[m2]?=some (ag.row 3 [.int .i64 a]).Jd)(hx:es[k]?=some x):C Tryz.prog 242 [.int .i64 (k:Int),.pointer (some ⟨m1,0,none⟩),.pointer (some ⟨m2,0,none⟩)] w0 fun v w'=>v=.bool (decide (Pl.Xy x>a))∧Ext No w0 w':=by
 obtain ⟨qb,qo,rfl⟩:=hq.bS Q8 Tb hx
 have aX:=(Le.1 hx).1
 have hox:=aq x (Ld hx)
 unfold Pl.ZB at hox
 refine aH Tryz.func242 fun κ _ Je Jc hm=>?_
 refine au 6 ?_
 refine dw [0,3,6,9,12,15,18,21,27,25,30,33] hm fun w hw ar hh hm=>?_
 refine au 7 ?_
 refine Ja rfl rfl (vU (vs:=[_,_]) rfl ag32.h (hq.Jj ar.to).nd Q8 hx rfl rfl)<|au 1 ?_
 refine cB rfl rfl rfl (QC x.1 x.2.1 _ (by simp only [Pl.aA]; omega)) hm hh fun w hm hh=>au 6 ?_
 exact ⟨rfl,hm.to⟩
theorem HH(mi:Nat)(q:Tg)(c:Nat)(es:List (Int×Int×Int))(w0:World)(nM:w0.heap[mi]?=some (ag.row 297 [.slice q es.length c]).Jd)(hq:Rd w0 q (es.flatMap ia))(hl:es.length≤1000000)(aq:∀ x∈es,Pl.ZB x)(a:Int)(Od:Pl.U6 es):C Tryz.prog 197 [.pointer (some ⟨mi,0,none⟩),.int .i64 a] w0 fun v w'=>∃ r:Nat,v=.int .i64 r∧r≤es.length∧es.dropWhile (fun x=>decide (Pl.Xy x≤a))=es.drop r∧Ext No w0 w':=by
 refine aH Tryz.func197 fun κ _ Je Jc hm=>?_
 refine au 2 ?_
 refine bT hm fun m1 w hm=>?_
 refine bT hm fun m2 w hm=>?_
 refine au 6 ?_
 refine cA rfl rfl rfl (KG mi q c es _ (Qp hm.to nM) (hq.Jj hm.to) hl aq) hm fun w hm=>au 1 ?_
 refine ca rfl rfl rfl (search es.length 242 _ (Pl.HG es a) _ Ta go242 (fun k w1 hk nL=>by
  obtain ⟨x,hx⟩:∃ y_,es[k]?=some y_:=⟨_,La hk⟩
  exact (D7 mi q c es w1 (Qp (hm.to.trans nL) nM) (hq.Jj (hm.to.trans nL)) hl aq m1 m2 k a x (Qp nL (hm.get (k:=1) rfl)) (Qp nL (hm.get (k:=0) rfl)) hx).mono fun v w2 h9=>⟨by rw [h9.1]; unfold Pl.HG; rw [hx],h9.2⟩) (D5 Od a)) fun v w hR=>?_
 obtain ⟨r,rfl,Bp,Du,NA,hE⟩:=hR
 refine ⟨trivial,?_⟩
 replace hm:=hm.ext hE
 refine au 5 ?_
 exact ⟨r,rfl,Bp,D6 Bp Du NA,hm.to⟩
theorem HI(mi:Nat)(q:Tg)(c:Nat)(es:List (Int×Int×Int))(m1 m2 yl:Nat)(a b:Int)(I:Tf→Nat→World→Prop)(F0:Tf)(w0:World)(hl:es.length≤1000000)(aq:∀ x∈es,Pl.ZB x)(Od:Pl.U6 es)(nY:0≤a∧0≤b∧a+b≤4611686018427387903)
 (cK:∀ F i w,I F i w→w.heap[m1]?=some (ag.row 196 [.pointer (some ⟨mi,0,none⟩)]).Jd∧w.heap[m2]?=some (ag.row 32 [.int .i64 a,.int .i64 b]).Jd∧w.heap[mi]?=some (ag.row 297 [.slice q es.length c]).Jd∧Rd w q (es.flatMap ia))
 (jV:∀ F i w w' N,I F i w→Mem w w' No N→I (F++N) i w')
 (hy:∀ F i w x,I F i w→(Pl.dA es a b)[i]?=some x→Yw Tryz.prog yl [.int .i64 x.2.2,.agg ⟨ME (Pl.aL x.1 x.2.1 a b)⟩] w fun v w'=>v=.bool true∧I F (i+1) w') (h0:I F0 0 w0):C Tryz.prog 196 [.func (.yield yl) #[] #[],.pointer (some ⟨m1,0,none⟩),.pointer (some ⟨m2,0,none⟩)] w0 fun v w'=>v=.tuple ⟨[]⟩∧∃ F,I F (Pl.dA es a b).length w':=by
 refine aH Tryz.func196 fun κ _ Je Jc hm=>?_
 refine au 2 ?_
 refine Ja rfl rfl (Jh rfl sc196.h (Qo ((hm.to.same _ (Lb.1 (cK _ _ _ h0).1).1 id).trans (cK _ _ _ h0).1)) rfl)<|au 1 ?_
 refine Ja rfl rfl (Jh rfl sc3.h (Qo ((hm.to.same _ (Lb.1 (cK _ _ _ h0).2.1).1 id).trans (cK _ _ _ h0).2.1)) rfl)<|cT rfl rfl rfl (HH mi q c es _ (Qp hm.to (cK _ _ _ h0).2.2.1) ((cK _ _ _ h0).2.2.2.Jj hm.to) hl aq a Od) fun v w hR=>?_
 obtain ⟨r,rfl,Bp,Du,hE⟩:=hR
 replace hm:=hm.ext hE
 have hh9:(Pl.dA es a b)=(es.drop r).takeWhile (Pl.nr a b):=by unfold Pl.dA; rw [Du]
 refine au 4 ?_
 refine Jg (ι:=List (Nat×ag)×Nat) rfl (ks:=[0,1,2]) Tn (fun x=>[(4,.int .i64 ((r+x.2:Nat):Int))]) (fun x w=>I x.1 x.2 w∧x.2≤(Pl.dA es a b).length) (fun x=>(Pl.dA es a b).length-x.2) (F0++_,0) (⟨jV _ _ _ _ _ h0 hm,LL _⟩) Tm (fun x w hM=>?_)
 obtain ⟨w9,rfl⟩:∃ u,u=w:=⟨w,rfl⟩
 obtain ⟨hI,hk⟩:=hM
 have hm:=Mem.start w9
 obtain ⟨hR1,Br,hR3,N6⟩:=cK _ _ _ hI
 refine au 5 ?_
 refine cA rfl rfl rfl (KG mi q c es _ (Qp hm.to hR3) (N6.Jj hm.to) hl aq) hm fun w hm=>au 3 ?_
 refine cd (fun ai=>?_) fun ai=>?_
 ·
  simp only [dT] at ai
  obtain ⟨x3,hx⟩:∃ y_,es[r+x.2]?=some y_:=⟨_,La Ta⟩
  obtain ⟨qb,qo,rfl⟩:=N6.bS Q8 Tb hx
  have hox:=aq x3 (Ld hx)
  unfold Pl.ZB at hox
  have hxd:(es.drop r)[x.2]?=some x3:=by rw [Kc]; exact hx
  refine au 4 ?_
  refine Xc (ι:=Nat) rfl (ks:=[0,1,2,4]) Tn (fun m5=>[(5,.pointer (some ⟨m5,0,none⟩)),(6,.bool (Pl.aL x3.1 x3.2.1 a b).isSome)]) (fun m5 w=>Mem w9 w No [(m5,.row 32 (ME (Pl.aL x3.1 x3.2.1 a b)))]) ?_ (fun m5 w hM=>?_)
  ·
   refine JS (.pure 0 (.pure 1 (.pure 2 (.pure 3 (.pure 4 (.pure 5 (.pure 6 (.pure 7 (.pure 8 (.act2 9 (.pure 10 (.pure 11 (.pure 12 (.act 13 (.cut (.act 14 (.pure 15 .done))))))) 13 (.act 9 (.pure 10 (.pure 11 (.pure 12 (.cut (.act 14 (.pure 15 .done))))))))))))))))) No fP Te hm fun w hw ar hh=>?_
   have hm:=ar
   refine au 7 ?_
   refine Ja rfl rfl (vU (vs:=[_,_]) rfl ag32.h (N6.Jj ar.to).nd Q8 hx rfl rfl)<|Ja rfl rfl (Jm (s:=2) (vs:=[_,_]) rfl ag32.h (fun u hu=>((ar.to.trans hu).same _ (Lb.1 Br).1 id).trans Br) rfl)<|QN ?_ ?_
   ·
    refine cB rfl rfl rfl (Q7 x3.1 x3.2.1 a b _ Ta Ta) hm hh fun w hm hh=>au 3 ?_
    refine al hm hh fun m5 w fQ hm hh=>?_
    refine au 1 ?_
    refine st hm 0 fun w hm=>?_
    refine au 2 ?_
    exact Qt m5 hm Tm
   ·
    refine al hm hh fun m5 w fQ hm hh=>?_
    refine cB rfl rfl rfl (Q7 x3.1 x3.2.1 a b _ Ta Ta) hm hh fun w hm hh=>au 4 ?_
    refine st hm 0 fun w hm=>?_
    refine au 2 ?_
    exact Qt m5 hm Tm
  ·
   have hm:=hM
   refine au 1 ?_
   cases RX:Pl.aL x3.1 x3.2.1 a b
   ·
    have b8:(Pl.dA es a b).length=x.2:=by rw [hh9] at hk ⊢; exact yz hk hxd (by unfold Pl.nr; rw [RX]; rfl)
    refine dw [0,3,6,9,12,15,18,21,24,27,30,33,36,2,40,42,45] hm fun w hw ar hh hm=>?_
    refine au 25 ?_
    refine dD (fin Je rfl .nil .nil ?_)
    exact ⟨rfl,_,by rw [b8]; exact jV _ _ _ _ _ hI hm⟩
   ·
    have BR:(Pl.dA es a b)[x.2]?=some x3:=by rw [hh9] at hk ⊢; exact D4 hk hxd (by unfold Pl.nr; rw [RX]; rfl)
    have rZ:=(Le.1 BR).1
    refine dw [0,3,6,9,12,15,18,21,24,27,30,33,36,2,40,42,45] hm fun w hw ar hh hm=>?_
    refine au 11 ?_
    refine Ja rfl rfl (Yr rfl sc3.h (N6.Jj ar.to).nd Q8 hx rfl)<|au 2 ?_
    have yf:=jV _ _ _ _ _ hI hm
    have hy9:=hy _ _ _ x3 yf BR
    refine XM rfl rfl rfl rfl hy9 fun v w hR=>⟨trivial,?_⟩
    obtain ⟨rfl,Ag⟩:=hR
    refine au 13 ?_
    exact next (x.1++_,x.2+1) Td ⟨Ag,Td⟩ ⟨nx (r+x.2),Tm⟩
 ·
  simp only [dF] at ai
  have b8:(Pl.dA es a b).length=x.2:=by rw [hh9] at hk ⊢; exact Oc hk (by rw [Lm]; omega)
  refine au 4 ?_
  refine eK (fin Jc rfl .nil .nil ?_)
  exact ⟨rfl,_,by rw [b8]; exact jV _ _ _ _ _ hI hm⟩
theorem Oe(p:Tg)(a b:Value)(w0:World):C Tryz.prog 156 [.pointer p,.agg ⟨[a,b]⟩] w0 fun v w'=>∃ m1 m2,v=.func (.func 196) #[] ⟨[.pointer (some ⟨m1,0,none⟩),.pointer (some ⟨m2,0,none⟩)]⟩∧Mem w0 w' No [(m1,.row 196 [.pointer p]),(m2,.row 32 [a,b])]:=by
 refine aH Tryz.func156 fun κ _ Je Jc hm=>?_
 refine au 2 ?_
 refine bT hm fun m1 w hm=>?_
 refine bT hm fun m2 w hm=>?_
 refine au 11 ?_
 exact ⟨_,_,rfl,hm.pick [1,0] rfl⟩
theorem Of(mi:Nat)(q:Tg)(c:Nat)(es:List (Int×Int×Int))(w0:World)(nM:w0.heap[mi]?=some (ag.row 297 [.slice q es.length c]).Jd)(hq:Rd w0 q (es.flatMap ia))(hl:es.length≤1000000)(aq:∀ x∈es,Pl.ZB x)(a b:Int)(Od:Pl.U6 es)(nY:0≤a∧0≤b∧a+b≤4611686018427387903):C Tryz.prog 125 [.pointer (some ⟨mi,0,none⟩),.agg ⟨[.int .i64 a,.int .i64 b]⟩] w0 fun v w'=>∃ p n cap g b9,v=.slice p n cap∧Acc 3 1 p n cap (((Pl.dA es a b).map fun x=>x.2.2).flatMap encI) g b9∧Mem w0 w' No [(g,b9)]:=by
 refine Zt Tryz.func125 rfl rfl rfl fun κ _ Je Jc=>?_
 have hm:=Mem.start w0
 refine au 2 ?_
 refine bT hm fun m1 w hm=>?_
 refine au 5 ?_
 refine aT hm fun m3 w hm=>?_
 replace hm:=hm.JP
 have ay:=Acc.nil 3 1 none 0
 refine au 7 ?_
 refine cT rfl rfl rfl (Oe _ _ _ _) fun v w hR=>?_
 obtain ⟨qa,qb,rfl,ae⟩:=hR
 replace hm:=hm.Jt ae
 refine au 3 ?_
 refine VJ rfl rfl go196 hm fun a_ fn r0 l w LB jF dV Km Kn hm=>C.mono (HI mi q c es qa qb l a b (fun F i w=>∃ (p:Tg) (n cap g:Nat) (b9:ag),Mem w0 w No ((l,LB .ready none)::(r0,eh (some []))::(qa,.row 196 [.pointer (some ⟨mi,0,none⟩)])::(qb,.row 32 [.int .i64 a,.int .i64 b])::(g,b9)::(m3,.row 134 [.slice p n cap])::(m1,.row 32 [.int .i64 a,.int .i64 b])::F)∧Acc 3 1 p n cap ((((Pl.dA es a b).take i).map fun x=>x.2.2).flatMap encI) g b9∧n=i) [] _ hl aq Od nY
  (by rintro F i w ⟨p,n,cap,g,b9,hm,-⟩; exact ⟨hm.get (k:=2) rfl,hm.get (k:=3) rfl,Qp hm.to nM,hq.Jj hm.to⟩)
  (by rintro F i w w' N ⟨p,n,cap,g,b9,hm,ha,hn⟩ hc; exact ⟨p,n,cap,g,b9,Mem.oX (N1:=[]) hm hc,ha,hn⟩)
  (fun F i w x hI nL=>?_) ⟨_,_,_,_,_,hm,ay,rfl⟩) (fun v w hR=>?_)
 ·
  subst jF
  obtain ⟨bU,nm,aB,cQ,cL,hm,ay,hnu⟩:=hI
  have KA:=(Le.1 nL).1
  have hhl:(Pl.dA es a b).length≤es.length:=Ki (List.takeWhile_sublist _).length_le (List.dropWhile_sublist _).length_le
  refine Yw.of dV (hm.get (k:=0) rfl) rfl rfl<|au 3 ?_
  refine Xf hm 0 rfl fun w hm=>XC rfl<|JT (.pure 0 (.pure 1 (.act 2 (.act 3 (.act 4 .done))))) Te<|Ja rfl rfl (Jh rfl sc134.h (hm.nt 5 rfl) rfl)<|Ja rfl rfl (Jx rfl)<|Jb (l:=[_]) rfl rfl sl134.h z3.h rfl rfl rfl rfl rfl rfl rfl hm trivial fun m2 w bo hm hh=>Jy rfl rfl rfl rfl rfl rfl sl134.h sl134.h z3.h rfl rfl (Rd.JL (hm.get (k:=0) rfl)) rfl ay hm 5 rfl Ta Ta fun bU aB cQ cL w ay hm=>st hm 6 fun w hm=>?_
  refine au 2 ?_
  refine gz hm 1 rfl fun w hm=>⟨rfl,bU,_,aB,cQ,cL,(hm.Jp [1,2,3,4,5,6,7] 8 rfl),ay.to ?_,Ta⟩
  rw [LC,nL,Lx,Lh]; rfl
 ·
  subst jF
  obtain ⟨rfl,F,bU,nm,aB,cQ,cL,hm,ay,hnu⟩:=hR
  rw [Lv] at ay
  refine ⟨.ready,none,nofun,hm.get (k:=0) rfl,fun w4 oh=>?_⟩
  replace hm:=Xw hm oh
  refine au 9 ?_
  refine dD (ly Je rfl hm 0 rfl .one fun w hm=>⟨(.tmp rfl .nil),?_⟩)
  exact ⟨_,_,_,_,_,rfl,ay,(hm.pick [3] rfl)⟩
end Go.Proofs.YtaehgpeenaomcaaGreat
