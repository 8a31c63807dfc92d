/- Part 13 of the proof of TopBack: CvC CvD CwA CwB ApA ApB ApC ApD ApE ApF ApG. Conditions: the hypotheses of each theorem. -/
import Derived.Test.YtaehgpeenaomcaaGreatV11
import Derived.Test.YtaehgpeenaomcaaGreatChecked
set_option maxRecDepth 10000
set_option maxHeartbeats 4000000
set_option linter.unusedVariables false
set_option linter.unusedSimpArgs false
namespace Go.Proofs.YtaehgpeenaomcaaGreat
open Go Go.Cx
end Go.Proofs.YtaehgpeenaomcaaGreat
namespace Go.Pl
open Go Go.Cx Go.Proofs.YtaehgpeenaomcaaGreat
def VW(cS:Th)(evd:Tj)(i:Nat)(c:Pl.Cm):Pl.Cm:=if c.k=1∧(i:Int)∈evd then ⟨2,c.to,0,0,(cS.drop c.fr.toNat).take c.ln.toNat⟩ else c
def Vj(cS:Th)(evd:Tj)(cs:List Pl.Cm)(k:Nat):List Pl.Cm:=cs.mapIdx fun i c=>if i<k then Pl.VW cS evd i c else c
end Go.Pl
namespace Go.Proofs.YtaehgpeenaomcaaGreat
open Go Go.Cx
theorem wZ(cS:Th)(evd:Tj)(cs:List Pl.Cm):Pl.Vj cS evd cs 0=cs:=by
 unfold Pl.Vj
 refine Kb fun i=>?_
 rw [List.getElem?_mapIdx]
 cases cs[i]? <;> simp
theorem nD{cS:Th}{evd:Tj}{cs:List Pl.Cm}{k:Nat}{c:Pl.Cm}(h:cs[k]?=some c):Pl.Vj cS evd cs (k+1)=(Pl.Vj cS evd cs k).set k (Pl.VW cS evd k c):=by
 unfold Pl.Vj
 refine Kb fun i=>?_
 rw [List.getElem?_set,List.getElem?_mapIdx,List.getElem?_mapIdx,List.length_mapIdx]
 have hk:=(Le.1 h).1
 by_cases e:k=i
 · subst e
   rw [LI rfl,LI hk,h]
   simp
 · rw [LH e]
   cases cs[i]? with
   | none=>rfl
   | some d=>
    simp only [Option.map_some]
    by_cases hi:i<k
    · rw [LI hi,LI Ta]
    · rw [LH hi,LH Ta]
theorem w5{cS:Th}{evd:Tj}{cs:List Pl.Cm}{k:Nat}{c:Pl.Cm}(h:cs[k]?=some c)(hl:Pl.VW cS evd k c=c):Pl.Vj cS evd cs (k+1)=Pl.Vj cS evd cs k:=by
 rw [nD h,hl]
 refine Kb fun i=>?_
 rw [List.getElem?_set]
 by_cases e:k=i
 · subst e
   unfold Pl.Vj
   rw [LI rfl,List.length_mapIdx,LI (Le.1 h).1,List.getElem?_mapIdx,h]
   simp
 · rw [LH e]
theorem ER{B:Tf}{q:Nat×ag}{u8:Nat}{xs:List aa}{x:aa}{k:Nat}(h:∀ x∈xs,bh B u8 x.d)(hx:bh (B++[q]) u8 x.d):∀ y∈xs.set k x,bh (B++[q]) u8 y.d:=fun y hy=>by
 rcases List.mem_or_eq_of_mem_set hy with hy | rfl
 · exact (h y hy).mono fun e he=>Lw _ he
 · exact hx
theorem O1(oo nn:Int)(H:Nat→UInt8)(po:Tg)(co:Nat)(cS:Th)(q:Tg)(cq:Nat)(cs:List aa)(pe:Tg)(ce:Nat)(evd:Tj)(w0:World)(ho:Rd w0 po (cS.flatMap Jk))(Et:cS.length≤co∧cS.length≤1000000)(hos:co≠0→∀ ad,po=some ad→ad.spot=none)(hq:Rd w0 q (cs.flatMap JM))(hl:cs.length≤1000)(aq:∀ c∈cs,Q1 w0 c)(cO:∀ c∈cs,c.d.bs.length≤140737488355328)(b6:∀ c∈cs,Pl.av c.cm=0)(oq:∀ c∈cs,c.k=1→c.fr+c.ln≤cS.length)(he:Rd w0 pe (evd.flatMap Cx.encI))(ya:evd.length≤1000000)(hoo:oo=cS.length):C Tryz.prog 66 [.slice po cS.length co,.agg ⟨aZ oo nn H q cs.length cq⟩,.slice pe evd.length ce] w0 fun v w'=>∃ (ys:List aa) (p:Tg) (cap g:Nat) (b:ag) (B:Tf),v=.tuple ⟨[.agg ⟨aZ oo nn H p ys.length cap⟩,.bool true]⟩∧Acc 60 5 p ys.length cap (ys.flatMap JM) g b∧ys.map aa.cm=Pl.Vj cS evd (cs.map aa.cm) cs.length∧(∀ y∈ys,bh B 5 y.d)∧Mem w0 w' No ((g,b)::B):=by
 refine aH Tryz.func66 fun κ _ Je Jc hm=>?_
 refine au 2 ?_
 refine bT hm fun m4 w hm=>?_
 refine aT hm fun m6 w hm=>?_
 refine au 10 ?_
 refine Ja rfl rfl (JA (c:=false) (XD rfl rfl) (LN (fun h=>h hoo)))<|au 7 ?_
 refine Ja rfl rfl (Jm (s:=67) (vs:=aZ oo nn H _ _ _) rfl ag26.h (hm.nt 1 rfl) rfl)<|au 2 ?_
 have cM:=nl oo nn H q cs.length cq q cq cs _ (hq.Jj hm.to) (fun c hc=>Q1.mono (aq c hc) hm.to) Ta cO
 refine cT rfl rfl rfl cM fun v w hR=>?_
 obtain ⟨Ih,bU,nm,aB,cQ,cL,B_u,rfl,ay,WL,jbU,ae⟩:=hR
 replace hm:=hm.VZ ae
 obtain rfl:=ay.QB Jf Tb
 refine aT hm fun m8 w hm=>?_
 refine st hm 0 fun w hm=>?_
 replace hm:=Xu hm rfl
 have rZ:Ih.length=cs.length:=by have:=LM List.length WL; simpa using this
 refine au 12 ?_
 refine Jg (ι:=Nat×List aa×ag×List (Nat×ag)) rfl (ks:=[0,2,6,7,8,24,25]) Tn (fun x=>[(26,.int .i64 (x.1:Int))]) (fun x w=>Mem w0 w No ((m8,.row 26 (aZ oo nn H bU Ih.length aB))::(cQ,x.2.2.1)::(m6,.row 26 (aZ 0 0 (fun _=>0) none 0 0))::(m4,.row 26 (aZ oo nn H q cs.length cq))::x.2.2.2)∧Acc 60 5 bU Ih.length aB (x.2.1.flatMap JM) cQ x.2.2.1∧x.2.1.map aa.cm=Pl.Vj cS evd (cs.map aa.cm) x.1∧(∀ y∈x.2.1,bh x.2.2.2 5 y.d)∧x.1≤cs.length) (fun x=>cs.length-x.1) (0,Ih,cL,B_u) (⟨(hm.Jp [0,1,2,3] 4 rfl),ay,by rw [WL,wZ],jbU,LL _⟩) Tm (fun x w hM=>?_)
 obtain ⟨k,zs,cL,B9⟩:=x
 obtain ⟨hm,ay,kV,hH,hk⟩:=hM
 simp only at hm ay kV hH hk ⊢
 have cV:=ay.QB Jf Tb
 refine au 6 ?_
 refine cd (fun ao=>?_) fun ao=>?_
 ·
  simp only [dT] at ao
  obtain ⟨c,hi⟩:∃ y_,cs[k]?=some y_:=⟨_,La Ta⟩
  obtain ⟨qb,qo,rfl⟩:=hq.bS Jf Tb hi
  have Ii:(cs.map aa.cm)[k]?=some c.cm:=by rw [Lt,hi]; rfl
  have jbV:=b6 c (Ld hi)
  have O2:=oq c (Ld hi)
  obtain rfl:=ay.ptr Ta
  refine au 8 ?_
  refine Ja rfl rfl (JU rfl ag60.h (hq.Jj hm.to).nt Jf hi)<|aT hm fun mc w hm=>?_
  refine au 1 ?_
  refine st hm 0 fun w hm=>?_
  refine au 5 ?_
  refine cA rfl rfl rfl (VI c.cm c.d.p c.d.cap _) hm fun w hm=>au 3 ?_
  refine aT hm fun ms w hm=>?_
  refine st hm 0 fun w hm=>?_
  refine au 9 ?_
  refine J1 rfl rfl rfl (fun hc=>(J8 (gx hc rfl) (J8 (gx hc rfl) QL))) go100 (fun hc=>(jg pe ce evd k _ (he.Jj hm.to) Ta)) trivial fun w hE hh=>?_
  replace hm:=hm.ext hE
  refine au 3 ?_
  refine cd (fun aD=>?_) fun aD=>?_
  ·
   simp only [bA,dT] at aD
   have dq:c.k=1:=aD.1
   have ef:=KS jbV dq
   have tX:=O2 dq
   have jbW:Q9 (Pl.br c.cm)=[.int .i64 c.fr,.int .i64 c.ln]:=by unfold Pl.br; rw [LI aD.1]; rfl
   rw [jbW] at hm
   have hDl:c.fr.toNat+c.ln.toNat-c.fr.toNat=((cS.drop c.fr.toNat).take c.ln.toNat).length:=by rw [Lg,Lm]; omega
   have ES:Pl.VW cS evd k c.cm=⟨2,c.to,0,0,[(⟨bP po co c.fr.toNat 1,co-c.fr.toNat,((cS.drop c.fr.toNat).take c.ln.toNat)⟩:SB)].flatMap (·.bs)⟩:=by unfold Pl.VW; rw [LI aD]; simp only [Lk,LY,Lq]; rfl
   refine dw [0,3,6,9,12,15,18,21,24,27,30,33,36,39,43,46,2,48,52] hm fun w hw ar hh hm=>?_
   refine au 13 ?_
   refine Ja rfl rfl (cy (JE (ln:=c.fr.toNat) (hn:=(c.fr.toNat+c.ln.toNat)) rfl sl22.h ⟨_,LM (fun x=>some (Value.int .i64 x)) Ta⟩ ⟨_,LM (fun x=>some (Value.int .i64 x)) Ta⟩ Ta Ta (fun h=>hos Ta)) (LM (fun x=>Value.slice (bP po co c.fr.toNat 1) x (co-c.fr.toNat)) hDl))<|Jb (l:=[_]) rfl rfl sl88.h z22.h rfl rfl rfl rfl rfl rfl rfl hm hh fun m3 w dX hm hh=>ca rfl rfl rfl (Zg c.to _ 1 [(⟨bP po co c.fr.toNat 1,co-c.fr.toNat,((cS.drop c.fr.toNat).take c.ln.toNat)⟩:SB)] _ (Rd.JL (hm.get (k:=0) rfl)) (by intro s9 eT; rw [Lf.1 eT]; exact ((ho.Jj hm.to).mz Et.1).BZ _) Tc (by simp only [Lk,LY,Lq,Lg,Lm]; omega)) fun v w hR=>?_
   obtain ⟨aK,dE,aj,aI,aF,rfl,ah,ae⟩:=hR
   refine ⟨hh.ext ae.to,?_⟩
   replace hh:=hh.ext ae.to
   replace hm:=hm.Jt ae
   obtain rfl:=ah.J0
   refine au 2 ?_
   refine gB rfl rfl rfl rfl sz60 rfl rfl ay Ta hm 5 rfl fun cL w ay hm=>?_
   replace ay:=ay.to (kj Jf Ta (jx ⟨2,c.to,0,0,[(⟨bP po co c.fr.toNat 1,co-c.fr.toNat,((cS.drop c.fr.toNat).take c.ln.toNat)⟩:SB)].flatMap (·.bs)⟩ aK aj))
   replace hm:=hm.Gp 0 rfl
   refine au 7 ?_
   exact next (k+1,zs.set k (jx ⟨2,c.to,0,0,[(⟨bP po co c.fr.toNat 1,co-c.fr.toNat,((cS.drop c.fr.toNat).take c.ln.toNat)⟩:SB)].flatMap (·.bs)⟩ aK aj),cL,B9++[(aI,aF)]) Td ⟨(hm.Jp [3,4,5,6] 7 rfl),ay,by simp only; rw [List.map_set,kV,nD Ii,ES]; rfl,ER hH (ah.held Tc),Td⟩ ⟨nx k,Tm⟩
  ·
   have ES:Pl.VW cS evd k c.cm=c.cm:=by unfold Pl.VW; rw [LH (fun h=>by simp [h.1,h.2] at aD)]
   refine au 7 ?_
   exact next (k+1,zs,cL,B9) Td ⟨(hm.Jp [2,3,4,5] 6 rfl),ay,by simp only; rw [w5 Ii ES,kV],hH,Td⟩ ⟨nx k,Tm⟩
 ·
  simp only [dF] at ao
  have b8:k=cs.length:=by omega
  rw [b8] at kV
  rw [cV] at ay hm ⊢
  refine au 7 ?_
  refine Ja rfl rfl (Jm (s:=67) (vs:=aZ oo nn H _ _ _) rfl ag26.h (hm.nt 0 rfl) rfl)<|st hm 2 fun w hm=>?_
  replace hm:=Xu hm rfl
  refine au 4 ?_
  refine dD (fin Je rfl (.cell rfl (Ju (vs:=aZ oo nn H _ _ _) ag26.h (hm.get (k:=2) rfl) rfl) (.tmp rfl .nil)) .more ?_)
  exact ⟨zs,_,aB,cQ,cL,B9,rfl,ay,kV,hH,(hm.Jp [1] 4 rfl)⟩
theorem O3(p:Tg)(cap:Nat)(xs:List aa)(fi:FuncId)(l2:Ti)(pred:aa→Bool)(w0:World)(hx:Rd w0 p (xs.flatMap JM))(hlen:xs.length≤9223372036854775807)(hg:JH Tryz.prog fi=true)(hf:∀ x w1,x∈xs→Ext No w0 w1→C Tryz.prog fi (.agg ⟨JM x⟩::l2) w1 fun v w2=>v=.bool (pred x)∧Ext No w1 w2):C Tryz.prog 101 [.slice p xs.length cap,.func (.func fi) #[] ⟨l2⟩] w0 fun v w'=>v=.int .i64 (Pl.idx pred xs)∧Ext No w0 w':=by
 refine aH Tryz.func101 fun κ _ Je Jc hm=>?_
 refine au 14 ?_
 refine Jg (ι:=Nat) rfl (ks:=[0,1,7]) Tn (fun k=>[(8,.int .i64 k)]) (fun k w=>Mem w0 w No []∧k≤xs.length∧∀ (j:Nat) y,j<k→xs[j]?=some y→pred y=false) (fun k=>xs.length-k) 0 (⟨hm,LL _,fun _ _ h=>absurd h (Nat.not_lt_zero _)⟩) Tm (fun k w hM=>?_)
 obtain ⟨hm,hk,cz⟩:=hM
 refine au 6 ?_
 refine cd (fun ai=>?_) fun ai=>?_
 ·
  simp only [dT] at ai
  obtain ⟨x,hi⟩:∃ y_,xs[k]?=some y_:=⟨_,La Ta⟩
  obtain ⟨qb,qo,rfl⟩:=hx.bS Jf Tb hi
  refine au 16 ?_
  refine Ja rfl rfl (JU rfl ag60.h (hx.Jj hm.to).nt Jf hi)<|Qf rfl rfl rfl rfl hg (hf x _ (Ld hi) hm.to) fun v w hR=>?_
  obtain ⟨rfl,hE⟩:=hR
  refine ⟨trivial,?_⟩
  replace hm:=hm.ext hE
  refine au 2 ?_
  refine cd (fun ao=>?_) fun ao=>?_
  ·
   refine au 13 ?_
   exact ⟨by rw [Pl.X8 hi ao cz],hm.to⟩
  ·
   refine au 7 ?_
   refine next (k+1) Ta ⟨hm,Ta,fun j y hj hy=>?_⟩ ⟨nx k,Tm⟩
   rcases L7 j k with h | h
   · exact cz j y h hy
   · obtain rfl:j=k:=by omega
     rw [hi] at hy; cases hy; exact ao
 ·
  have hk:k=xs.length:=by simp at ai; omega
  subst hk
  refine au 12 ?_
  exact ⟨by rw [Pl.YN cz],hm.to⟩
theorem WM(aK:Tg)(aj:Nat)(xs:List aa)(aI:Nat)(aF:ag)(fi:FuncId)(l2:Ti)(pred:aa→Bool)(w0:World)(ah:Acc 60 5 aK xs.length aj (xs.flatMap JM) aI aF)(DB:aF.real=true→w0.heap[aI]?=some aF.Jd)(hlen:xs.length≤4611686018427387903)(hg:JH Tryz.prog fi=true)(hf:∀ x w1,Ext (fun k=>k=aI∧aF.real=true) w0 w1→C Tryz.prog fi (.agg ⟨JM x⟩::l2) w1 fun v w2=>v=.bool (pred x)∧Ext No w1 w2):C Tryz.prog 67 [.slice aK xs.length aj,.func (.func fi) #[] ⟨l2⟩] w0 fun v w'=>∃ b',v=.slice aK (xs.filter fun x=>!pred x).length aj∧Acc 60 5 aK (xs.filter fun x=>!pred x).length aj ((xs.filter fun x=>!pred x).flatMap JM) aI b'∧Mem w0 w' (fun k=>k=aI∧aF.real=true) [(aI,b')]:=by
 refine Vk Tryz.func67 rfl rfl rfl fun κ _ Je Jc=>?_
 have hm:=Mem.wm DB
 refine au 9 ?_
 refine cA rfl rfl rfl (O3 aK aj xs fi l2 pred _ (ah.rd hm 0 rfl) Ta hg (fun x w1 hx hE=>hf x w1 (hm.to.trans hE.F1))) hm fun w hm=>au 10 ?_
 refine cd (fun ai=>?_) fun ai=>?_
 ·
  simp only [dT] at ai
  have cI:(xs.filter fun x=>!pred x)=xs:=by rcases X9 pred xs with ⟨_,h⟩ | ⟨i,x,h,_⟩; exact h; omega
  refine au 9 ?_
  exact ⟨aF,by rw [cI],by rw [cI]; exact ah,(hm.pick [0] rfl)⟩
 ·
  simp only [dF] at ai
  obtain ⟨i0,x0,nM,fN,jU,NK⟩:=(X9 pred xs).resolve_left (fun h=>ai h.1)
  have MA:=(Le.1 fN).1
  rw [nM]
  obtain rfl:=ah.ptr Ta
  have UI:=DelI.start fN jU NK
  refine au 11 ?_
  refine Jg (ι:=Nat×Nat×ag×List aa) rfl (ks:=[0,1,4]) Tn (fun x=>[(6,.int .i64 x.1),(5,.int .i64 x.2.1)]) (fun x w=>Mem w0 w (fun k=>k=aI∧aF.real=true) [(aI,x.2.2.1)]∧Acc 60 5 (some ⟨aI,0,none⟩) xs.length aj (x.2.2.2.flatMap JM) aI x.2.2.1∧DelI pred xs x.1 x.2.1 x.2.2.2) (fun x=>xs.length-x.1) (i0+1,i0,aF,xs) (⟨(hm.pick [0] rfl),ah,UI⟩) ⟨nx i0,Tm⟩ (fun x w hM=>?_)
  obtain ⟨hm,ah,hI⟩:=hM
  refine au 9 ?_
  refine cd (fun ao=>?_) fun ao=>?_
  ·
   simp only [dT] at ao
   have cV:=hI.len
   have aX:=hI.lt
   obtain ⟨e,hi⟩:∃ y_,x.2.2.2[x.1]?=some y_:=⟨_,La Ta⟩
   refine au 9 ?_
   refine Ja rfl rfl (JU rfl ag60.h (ah.rd hm 0 rfl).nt Jf hi)<|aT hm fun m1 w hm=>?_
   refine st hm 0 fun w hm=>?_
   refine au 6 ?_
   refine Qf rfl rfl rfl rfl hg (hf e _ hm.to) fun v w hR=>?_
   obtain ⟨rfl,hE⟩:=hR
   refine ⟨trivial,?_⟩
   replace hm:=hm.ext hE
   refine au 3 ?_
   refine cd (fun aD=>?_) fun aD=>?_
   ·
    simp only [bE] at aD
    refine au 6 ?_
    refine gB rfl rfl rfl rfl sz60 rfl rfl ah Ta hm 1 rfl fun aF w ah hm=>?_
    replace ah:=ah.to (kj Jf Ta e)
    refine au 14 ?_
    refine next (x.1+1,x.2.1+1,aF,x.2.2.2.set x.2.1 e) Td ⟨(hm.pick [1] rfl),ah,hI.put hi aD⟩ ⟨nx x.1,nx x.2.1,Tm⟩
   ·
    simp only [bF] at aD
    refine au 8 ?_
    refine next (x.1+1,x.2.1,x.2.2.1,x.2.2.2) Td ⟨(hm.pick [1] rfl),ah,hI.skip hi aD⟩ ⟨nx x.1,Tm⟩
  ·
   simp only [dF] at ao
   obtain ⟨Ho,Ak,PY⟩:=hI.done Ta
   refine au 9 ?_
   refine Ja rfl rfl (JE (ln:=x.2.1) (hn:=xs.length) rfl sl24.h ⟨_,rfl⟩ rfl Ta (by have:=ah.le; omega) (fun _ ad e=>by cases e; rfl))<|mC rfl rfl sl24.h z60.h rfl Tb rfl Ta ah hm 0 rfl fun aF w ah hm=>au 6 ?_
   refine Ja rfl rfl (JE (ln:=0) (hn:=x.2.1) rfl sl24.h rfl ⟨_,rfl⟩ Ta (by have:=ah.le; omega) (fun _ ad e=>by cases e; rfl))<|au 5 ?_
   exact ⟨aF,by rw [Ak,XW (fun a e=>by cases e; rfl)]; rfl,by rw [Ak]; exact (ah.head PY).to ((Y1 _ _ _).trans ((kl Jf _ _).trans (by rw [Ho]))),(hm.pick [0] rfl)⟩
theorem Ij(xs:List aa):(xs.filter fun x=>!decide (x.k≠2)).map aa.cm=(xs.map aa.cm).filter fun c=>decide (c.k=2):=by
 rw [List.filter_map]
 congr 1
 refine List.filter_congr fun x _=>?_
 show (!decide (x.k≠2))=decide (x.cm.k=2)
 have:x.cm.k=x.k:=rfl
 rw [this]
 by_cases h:x.k=2 <;> simp [h]
end Go.Proofs.YtaehgpeenaomcaaGreat
namespace Go.Pl
open Go Go.Cx Go.Proofs.YtaehgpeenaomcaaGreat
def ET(cS:Th)(cs:List aa)(ds:List Pl.Cm):Prop:=∃ (E:Tl) (evd ord:Tj) (ls:List Pl.Cm),ds=Pl.Xd (cs.map aa.cm) ord++ls∧ls.Perm ((Pl.Vj cS evd (cs.map aa.cm) cs.length).filter fun c=>decide (c.k=2))∧ls.Pairwise (fun a b=>a.to≤b.to) ∧
 (∀ e,e∈E↔Pl.AS cs cs.length e)∧Pl.Evs E (cs.map aa.ln) (Pl.Xa cs cs.length) evd∧Pl.Kahn E (Pl.ea (Pl.Xa cs cs.length++evd) cs.length) ord []∧evd.Nodup∧∀ v∈evd,0≤v∧v<(cs.length:Int)
end Go.Pl
namespace Go.Proofs.YtaehgpeenaomcaaGreat
open Go Go.Cx
theorem AW{cs:List Pl.Cm}{zs:Tj}{k i:Nat}{c:Pl.Cm}(h:zs[k]?=some (i:Int))(hc:cs[i]?=some c):Pl.Xd cs (zs.take (k+1))=Pl.Xd cs (zs.take k)++[c]:=by
 unfold Pl.Xd
 rw [LC,h,List.filterMap_append]
 congr 1
 simp [hc]
theorem Ik{zs:List aa}(h:∀ (i j:Nat) x y,i<j→zs[i]?=some x→zs[j]?=some y→x.to≤y.to):(zs.map aa.cm).Pairwise (fun a b=>a.to≤b.to):=by
 rw [List.pairwise_map,List.pairwise_iff_getElem]
 intro i j hi hj eZ
 exact h i j _ _ eZ (La hi) (La hj)
end Go.Proofs.YtaehgpeenaomcaaGreat
namespace Go.Cx
open Go Go.Cx Go.Proofs.YtaehgpeenaomcaaGreat
theorem Mem.Il{w0 w w':World}{X:Bs}{L N2:Tf}{q:Nat×ag}(h:Mem w0 w X L)(hc:Mem w w' No (q::N2)):Mem w0 w' X (q::(L++N2)):=h.VZ hc
end Go.Cx
namespace Go.Proofs.YtaehgpeenaomcaaGreat
open Go Go.Cx
theorem O4(c:aa)(w0:World):C Tryz.prog 68 [.agg ⟨JM c⟩] w0 fun v w'=>v=.bool (decide (c.k≠2))∧Ext No w0 w':=by
 refine aH Tryz.func68 fun κ _ Je Jc hm=>?_
 refine au 2 ?_
 refine bT hm fun m1 w hm=>?_
 refine au 13 ?_
 exact ⟨rfl,hm.to⟩
theorem AX(po:Tg)(co:Nat)(cS:Th)(q:Tg)(cq:Nat)(cs:List aa)(w0:World)(ho:Rd w0 po (cS.flatMap Jk))(Et:cS.length≤co∧cS.length≤1000000)(hos:co≠0→∀ ad,po=some ad→ad.spot=none)(hq:Rd w0 q (cs.flatMap JM))(hl:cs.length≤100)(aq:∀ c∈cs,Q1 w0 c)(cO:∀ c∈cs,c.d.bs.length≤140737488355328)(b6:∀ c∈cs,Pl.av c.cm=0)(hd:(cs.map Pl.nQ).Pairwise Pl.KN)(oq:∀ c∈cs,c.k=1→c.fr+c.ln≤cS.length):C Tryz.prog 44 [.slice po cS.length co,.slice q cs.length cq] w0 fun v w'=>∃ (ds:List aa) (p:Tg) (n cap g:Nat) (b:ag) (B:Tf),v=.slice p n cap∧Acc 60 5 p n cap (ds.flatMap JM) g b∧Pl.ET cS cs (ds.map aa.cm)∧(∀ y∈ds,bh B 5 y.d)∧ds.length≤200∧Mem w0 w' No ((g,b)::B):=by
 refine aH Tryz.func44 fun κ _ Je Jc hm=>?_
 refine au 8 ?_
 refine cT rfl rfl rfl (jbS q cq cs _ (hq.Jj hm.to) hl b6 hd) fun v w hR=>?_
 obtain ⟨mh,ud,c_e,Bn,Bo,evd,nB,c_r,ov,ow,ord,E,rfl,cP,bq,kM,wW,fh,wX,wY,ae⟩:=hR
 replace hm:=hm.Jt ae
 have jbT:evd.length≤cs.length:=by have:=Pl.VE (m:=Pl.ids cs.length) wX (fun v hv=>Pl.XK.2 (wY v hv)); rwa [Pl.Qj] at this
 have horl:ord.length≤cs.length:=by have:=Pl.VE (m:=Pl.ids cs.length) fh.nd (fun v hv=>Pl.XK.2 (by have:=Pl.Vh.1 ((fh.part v).2 (.inl hv)); omega)); rwa [Pl.Qj] at this
 refine aT hm fun mc w hm=>?_
 refine st hm 0 fun w hm=>?_
 refine au 5 ?_
 replace hm:=hm.JP
 have az:=Acc.nil 60 5 none 0
 refine au 12 ?_
 refine Jg (ι:=Nat×Ow×List aa×List (Nat×ag)) rfl (ks:=[0,1,4,5,15,16]) Tn (fun x=>[(17,.int .i64 (x.1:Int)),(6,.slice x.2.1.p x.2.1.n x.2.1.cap)]) (fun x w=>Mem w0 w No ((x.2.1.g,x.2.1.b)::(mc,.row 136 [.slice q cs.length cq,.pointer (some ⟨mh,0,none⟩),.slice ud evd.length c_e,.slice nB ord.length c_r])::(Bn,Bo)::(ov,ow)::x.2.2.2)∧Acc 60 5 x.2.1.p x.2.1.n x.2.1.cap (x.2.2.1.flatMap JM) x.2.1.g x.2.1.b∧x.2.2.1.map aa.cm=Pl.Xd (cs.map aa.cm) (ord.take x.1)∧(∀ y∈x.2.2.1,bh x.2.2.2 5 y.d)∧x.1≤ord.length∧x.2.2.1.length=x.1) (fun x=>ord.length-x.1) (0,⟨none,0,0,0,.gap⟩,[],[]) (⟨(hm.pick [0,1,2,3] rfl),az,rfl,Tc,LL _,rfl⟩) Tm (fun x w hM=>?_)
 obtain ⟨k,⟨dJ,KR,aM,cD,dK⟩,ds,B9⟩:=x
 obtain ⟨hm,az,PS,hH,hk,eM⟩:=hM
 simp only at hm az PS hH hk eM ⊢
 obtain rfl:=az.QB Jf Tb
 refine au 6 ?_
 refine cd (fun ai=>?_) fun ai=>?_
 ·
  simp only [dT] at ai
  obtain ⟨z,dY⟩:∃ y_,ord[k]?=some y_:=⟨_,La Ta⟩
  obtain ⟨qb,qo,rfl⟩:=(bq.rd hm 3 rfl).bS Jq Tb dY
  have hzn:=Pl.Vh.1 ((fh.part z).2 (.inl (Ld dY)))
  obtain ⟨iz,rfl⟩:∃ i:Nat,z=(i:Int):=⟨z.toNat,Ta⟩
  obtain ⟨c,hi⟩:∃ y_,cs[iz]?=some y_:=⟨_,La Ta⟩
  obtain ⟨U1,qo2,rfl⟩:=hq.bS Jf Tb hi
  have Ii:(cs.map aa.cm)[iz]?=some c.cm:=by rw [Lt,hi]; rfl
  have dH:=aq c (Ld hi)
  have hbc:=cO c (Ld hi)
  refine au 7 ?_
  refine Ja rfl rfl (J3 rfl sc3.h (bq.rd hm 3 rfl).nt Jq dY rfl)<|au 8 ?_
  refine Ja rfl rfl (JU rfl ag60.h (hq.Jj hm.to).nt Jf hi)<|cT rfl rfl rfl (qZ c.cm c.d.p c.d.cap _ (dH.2.2.2.2.rd.Jj hm.to) hbc) fun v w hR=>?_
  obtain ⟨aK,dE,aj,aI,aF,rfl,ah,ae⟩:=hR
  replace hm:=hm.Jt ae
  obtain rfl:=ah.J0
  refine Jb (l:=[_,_,_,_,_]) rfl rfl sl24.h z60.h rfl rfl rfl rfl rfl rfl rfl hm trivial fun m1 w c5 hm hh=>Jy rfl rfl rfl rfl rfl rfl sl24.h sl24.h z60.h rfl rfl (Rd.JL (hm.get (k:=0) rfl)) rfl az hm 2 rfl Ta Ta fun dJ aM cD dK w az hm=>?_
  replace hm:=hm.Gp 1 rfl
  refine au 8 ?_
  exact next (k+1,⟨dJ,_,aM,cD,dK⟩,ds++[jx c.cm aK aj],B9++[(aI,aF)]) Td ⟨(hm.Jp [1,2,3,4] 5 rfl),az.to (by simp only [Lh,Lk,LY,Lq]; rfl),by simp only; rw [Lx,PS,AW dY Ii]; rfl,qB hH (ah.held Tc),Td,by simp only [Lc,LG]; omega⟩ ⟨nx k,Tm⟩
 ·
  simp only [dF] at ai
  have b8:k=ord.length:=by omega
  rw [b8,Lv] at PS
  refine au 11 ?_
  refine Ja rfl rfl (mT (cs:=aZ (cS.length:Int) 0 (fun _=>0) q cs.length cq) z26.h ft26.h rfl rfl rfl Te Te)<|au 2 ?_
  have cM:=O1 cS.length 0 (fun _=>0) po co cS q cq cs ud c_e evd _ (ho.Jj hm.to) Et hos (hq.Jj hm.to) Ta (fun c hc=>Q1.mono (aq c hc) hm.to) cO b6 oq (cP.rd hm 2 rfl) Ta rfl
  refine cT rfl rfl rfl cM fun v w hR=>?_
  obtain ⟨ys,bU,aB,cQ,cL,B_u,rfl,ay,P2,pM,ae⟩:=hR
  replace hm:=hm.Il ae
  have fz:ys.length=cs.length:=by have:=LM List.length P2; unfold Pl.Vj at this; simpa using this
  refine au 3 ?_
  refine aT hm fun m9 w hm=>?_
  refine st hm 0 fun w hm=>?_
  replace hm:=Xu hm rfl
  refine au 7 ?_
  refine cT rfl rfl rfl (WM bU aB ys cQ cL 68 [] (fun x=>decide (x.k≠2)) _ ay (fun h9=>hm.nV (k:=1) rfl h9) Ta go68 (fun x w9 _=>O4 x w9)) fun v w hR=>?_
  obtain ⟨cL,rfl,ay,ae⟩:=hR
  replace hm:=hm.Cz 1 rfl ae
  have bY:=List.length_filter_le (fun x:aa=>!decide (x.k≠2)) ys
  refine au 6 ?_
  refine cT rfl rfl rfl (OH bU cQ aB cL (ys.filter fun x=>!decide (x.k≠2)) _ ay (fun h9=>hm.nV (k:=1) rfl h9) Ta) fun v w hR=>?_
  obtain ⟨rfl,zs,cL,dS,j0,ay,O2⟩:=hR
  replace hm:=hm.Ed 1 rfl O2
  have cV:=dS.length_eq
  refine au 6 ?_
  refine Jy rfl rfl rfl rfl rfl rfl sl24.h sl24.h z60.h rfl (RY zs) (ay.rd hm 1 rfl) (by rw [jal,cV]) az hm 2 rfl Ta Ta fun dJ aM cD dK w az hm=>au 5 ?_
  refine ⟨ds++zs,dJ,_,aM,cD,dK,B9++B_u,rfl,az.to (by rw [Lh]),⟨E,evd,ord,zs.map aa.cm,by rw [Lx,PS],?_,Ik j0,kM,wW,fh,wX,wY⟩,fun y hy=>?_,by rw [Lc]; omega,(hm.Jp [2] 6 rfl)⟩
  · have h9:=dS.map aa.cm
    rw [Ij,P2] at h9
    exact h9
  · rcases Ls.1 hy with hy | hy
    · exact (hH y hy).mono fun e he=>Lw _ he
    · exact (pM y (L5.1 (dS.mem_iff.1 hy)).1).mono fun e he=>Ly _ he
theorem rI{a b:Pl.Cm}(h:Pl.dj a b):Pl.dj b a:=Or.symm h
theorem KX{o n:Int}{cs:List Pl.Cm}(h:Pl.VD o n cs):cs.Pairwise Pl.dj:=by
 rw [List.pairwise_iff_getElem]
 intro i j hi hj eZ
 exact rI (h.dis j i _ _ eZ (La hj) (La hi))
theorem WN{o n:Int}{cs:List Pl.Cm}(hl:0≤o∧0≤n∧o≤4611686018427387903∧n≤4611686018427387903)(h1:∀ c∈cs,Pl.single o n c=0)(h2:cs.Pairwise Pl.dj)(h3:∀ x:Int,0≤x→x<n→∃ c∈cs,Pl.hasB c x=true):Pl.VD o n cs:=
 ⟨hl,h1,fun i j ci cj eZ hi hj=>by
  obtain ⟨ki,dY⟩:=Le.1 hi
  obtain ⟨dW,On⟩:=Le.1 hj
  have:=(List.pairwise_iff_getElem.1 h2) j i dW ki eZ
  rw [dY,On] at this
  exact rI this,h3⟩
theorem Im{o n:Int}{cs ds:List Pl.Cm}(h:Pl.VD o n cs)(hp:ds.Perm cs):Pl.VD o n ds:=
 WN h.lens (fun c hc=>h.one c (hp.mem_iff.1 hc)) (hp.symm.pairwise (KX h) fun h=>rI h) fun x h1 h2=>by
  obtain ⟨c,hc,hx⟩:=h.cov x h1 h2
  exact ⟨c,hp.mem_iff.2 hc,hx⟩
theorem iq{o n:Int}{f:Th}{evd:Tj}{i:Nat}{c:Pl.Cm}(ho:o=f.length)(h:Pl.single o n c=0):(Pl.VW f evd i c).to=c.to∧Pl.aw (Pl.VW f evd i c)=Pl.aw c∧Pl.dt f (Pl.VW f evd i c)=Pl.dt f c∧Pl.single o n (Pl.VW f evd i c)=0:=by
 obtain ⟨h1,h2,h3⟩:=Pl.Jw h
 have hk:=Pl.Jl h1
 unfold Pl.VW
 by_cases hc:c.k=1∧(i:Int)∈evd
 · rw [LI hc]
   have hs:=h2 hc.1
   have P6:((List.take c.ln.toNat (List.drop c.fr.toNat f)).length:Int)=Pl.aw c:=by
    rw [Lg,Lm]
    unfold Pl.aw
    rw [LI hc.1]
    omega
   have bL:Pl.aw ⟨2,c.to,0,0,List.take c.ln.toNat (List.drop c.fr.toNat f)⟩=Pl.aw c:=by
    unfold Pl.aw at *
    rw [LH Tc]
    exact P6
   refine ⟨rfl,bL,?_,?_⟩
   · unfold Pl.dt
     rw [LH Tc,LI hc.1]
   · have b6:Pl.av ⟨2,c.to,0,0,List.take c.ln.toNat (List.drop c.fr.toNat f)⟩=0:=by
      unfold Pl.av
      rw [bL]
      have hv:=Pl.YB (o:=c.to) (l:=Pl.aw c) Ta
      simp only [hv]
      rw [LH Tc,LH Ta,LH Tc,LH Tc,LH Tc]
     unfold Pl.single
     rw [LH (by rw [b6]; simp),LH (fun h=>by simp at h),LH (by rw [bL]; show ¬ n<c.to+Pl.aw c; omega)]
 · rw [LH hc]; exact ⟨rfl,rfl,rfl,h⟩
theorem Za{f:Th}{evd:Tj}{cs:List Pl.Cm}{i:Nat}:(Pl.Vj f evd cs cs.length)[i]?=(cs[i]?).map (Pl.VW f evd i):=by
 unfold Pl.Vj
 rw [List.getElem?_mapIdx]
 cases h:cs[i]? with
 | none=>rfl
 | some c=>simp only [Option.map_some]; rw [LI (Le.1 h).1]
theorem AY(f:Th)(evd:Tj)(cs:List Pl.Cm)(k:Nat):(Pl.Vj f evd cs k).length=cs.length:=by unfold Pl.Vj; exact List.length_mapIdx
theorem Io{o n:Int}{f:Th}{evd:Tj}{cs:List Pl.Cm}(ho:o=f.length)(h:Pl.VD o n cs):Pl.VD o n (Pl.Vj f evd cs cs.length):=by
 have hg:∀ {i:Nat} {d:Pl.Cm},(Pl.Vj f evd cs cs.length)[i]?=some d→∃ c,cs[i]?=some c∧d=Pl.VW f evd i c:=by
  intro i d hd
  rw [Za] at hd
  obtain ⟨c,hc,rfl⟩:=Option.map_eq_some_iff.1 hd
  exact ⟨c,hc,rfl⟩
 refine ⟨h.lens,fun d hd=>?_,fun i j ci cj eZ hi hj=>?_,fun x h1 h2=>?_⟩
 · obtain ⟨i,hi,rfl⟩:=LU hd
   obtain ⟨c,hc,hd⟩:=hg (La hi)
   rw [hd]
   exact (iq ho (h.one c (Ld hc))).2.2.2
 · obtain ⟨a,ha,rfl⟩:=hg hi
   obtain ⟨b,hb,rfl⟩:=hg hj
   have h1:=iq (f:=f) (evd:=evd) (i:=i) ho (h.one a (Ld ha))
   have h2:=iq (f:=f) (evd:=evd) (i:=j) ho (h.one b (Ld hb))
   have:=h.dis i j a b eZ ha hb
   unfold Pl.dj at *
   rw [h1.1,h1.2.1,h2.1,h2.2.1]
   exact this
 · obtain ⟨c,hc,hx⟩:=h.cov x h1 h2
   obtain ⟨i,hi,rfl⟩:=LU hc
   refine ⟨Pl.VW f evd i cs[i],Ld (i:=i) (by rw [Za,La hi]; rfl),?_⟩
   have h1:=iq (f:=f) (evd:=evd) (i:=i) ho (h.one cs[i] hc)
   rw [Pl.Qm] at hx ⊢
   rw [h1.1,h1.2.1]
   exact hx
theorem EU{o n:Int}{f:Th}{cs ds:List Pl.Cm}(ho:o=f.length)(h:Pl.VD o n cs)(h':Pl.VD o n ds)(hs:∀ c∈cs,∃ d∈ds,d.to=c.to∧Pl.aw d=Pl.aw c∧Pl.dt f d=Pl.dt f c):Pl.bQ f ds n.toNat=Pl.bQ f cs n.toNat:=by
 unfold Pl.bQ
 refine List.map_congr_left fun i hi=>?_
 rw [List.mem_range] at hi
 obtain ⟨c,hc,hx⟩:=h.cov i Ta Ta
 obtain ⟨d,hd,h1,h2,h3⟩:=hs c hc
 rw [Pl.Qm] at hx
 obtain ⟨j,hj⟩:∃ j:Nat,(i:Int)=c.to+j:=⟨((i:Int)-c.to).toNat,Ta⟩
 have hl:=Pl.ZH ho (h.one c hc)
 obtain ⟨b,hb⟩:∃ b,(Pl.dt f c)[j]?=some b:=⟨_,La Ta⟩
 obtain ⟨kc,Nl,rfl⟩:=LU hc
 obtain ⟨kd,M7,rfl⟩:=LU hd
 have e1:=Pl.wD h ho (La Nl) hb
 have e2:=Pl.wD h' ho (La M7) (j:=j) (b:=b) (by rw [h3]; exact hb)
 rw [h1] at e2
 rw [show (cs[kc].to+(j:Int)).toNat=i by omega] at e1 e2
 rw [e1,e2]
theorem pW{α:Type}{g:Int→Option α}{g':Int→Option α}{p:α→Bool}{q:Int→Bool}:∀ {l:Tj},(∀ z∈l,q z=true→∀ c,g z=some c→g' z=some c∧p c=true)→(∀ z∈l,q z=false→∀ c,g' z=some c→p c=false)→(∀ z∈l,(g z).isSome=true)→(l.filter q).filterMap g=(l.filterMap g').filter p
 | [],_,_,_=>rfl
 | z::r,h1,h2,h3=>by
  have ih:=pW (l:=r) (fun y hy=>h1 y (LX _ hy)) (fun y hy=>h2 y (LX _ hy)) (fun y hy=>h3 y (LX _ hy))
  obtain ⟨c,hc⟩:=Option.isSome_iff_exists.1 (h3 z (Lo ..))
  cases hq:q z with
  | true=>
   obtain ⟨h4,h5⟩:=h1 z (Lo ..) hq c hc
   rw [List.filter_cons,LI hq,List.filterMap_cons,hc,List.filterMap_cons,h4]
   simp only
   rw [List.filter_cons,LI h5,ih]
  | false=>
   rw [List.filter_cons,LH (by rw [hq]; simp),List.filterMap_cons]
   cases hg:g' z with
   | none=>exact ih
   | some d=>
    simp only
    rw [List.filter_cons,LH (by rw [h2 z (Lo ..) hq d hg]; simp),ih]
theorem uU{cs:List aa}{E:Tl}{ws:Tj}(hE:∀ e,e∈E↔Pl.AS cs cs.length e){out:Tj}(h:Pl.Evs E ws (Pl.Xa cs cs.length) out):∀ v∈out,v∉Pl.Xa cs cs.length:=by
 induction h with
 | nil=>simp
 | step _ hl hp ih=>
  intro v hv
  rcases Ls.1 hv with hv | hv
  · exact ih v hv
  · rw [Lf.1 hv]
    have:=(L5.1 (pU (key:=Pl.wt ws) hp)).2
    simpa using this
theorem EV{o n:Int}{f:Th}{cs:List aa}{ds:List Pl.Cm}(h:Pl.VD o n (cs.map aa.cm))(ha:Pl.ET f cs ds):∃ evd,ds.Perm (Pl.Vj f evd (cs.map aa.cm) cs.length):=by
 obtain ⟨E,evd,ord,ls,rfl,hp,-,hE,wW,fh,-,hrg⟩:=ha
 refine ⟨evd,?_⟩
 have Bq:=uU hE wW
 have ub:ord.Perm (Pl.ea (Pl.Xa cs cs.length++evd) cs.length):=by
  refine (List.perm_ext_iff_of_nodup fh.nd ?_).2 fun v=>by rw [fh.part v]; simp
  unfold Pl.ea
  exact ((Pl.Ep cs.length).imp fun h e=>by omega:(Pl.ids cs.length).Nodup).filter _
 have h1:(Pl.Xd (cs.map aa.cm) ord).Perm ((Pl.Vj f evd (cs.map aa.cm) cs.length).filter fun c=>!decide (c.k=2)):=by
  refine (ub.filterMap _).trans (List.Perm.of_eq ?_)
  have jbX:Pl.Vj f evd (cs.map aa.cm) cs.length=(Pl.ids cs.length).filterMap fun z=>((cs.map aa.cm)[z.toNat]?).map (Pl.VW f evd z.toNat):=by
   refine Kb fun i=>?_
   have SM:cs.length=(cs.map aa.cm).length:=(Lj _).symm
   rw [SM,Za]
   have key:∀ k:Nat,k≤(cs.map aa.cm).length→((Pl.ids k).filterMap fun z=>((cs.map aa.cm)[z.toNat]?).map (Pl.VW f evd z.toNat))=(List.range k).filterMap fun i=>((cs.map aa.cm)[i]?).map (Pl.VW f evd i):=by
    intro k _
    unfold Pl.ids
    rw [List.filterMap_map]
    rfl
   rw [key _ (LP _)]
   have jbY:∀ k:Nat,k≤(cs.map aa.cm).length→∀ i,((List.range k).filterMap fun i=>((cs.map aa.cm)[i]?).map (Pl.VW f evd i))[i]?=if i<k then ((cs.map aa.cm)[i]?).map (Pl.VW f evd i) else none:=by
    intro k
    induction k with
    | zero=>intro _ i; simp
    | succ k ih=>
     intro hk i
     have hlen:((List.range k).filterMap fun i=>((cs.map aa.cm)[i]?).map (Pl.VW f evd i)).length=k:=by
      have h7:=ih Ta
      have ha:∀ j,j<k→(((List.range k).filterMap fun i=>((cs.map aa.cm)[i]?).map (Pl.VW f evd i))[j]?).isSome=true:=fun j hj=>by
       rw [h7 j,LI hj,La Ta]; rfl
      have hb:((List.range k).filterMap fun i=>((cs.map aa.cm)[i]?).map (Pl.VW f evd i))[k]?=none:=by rw [h7 k,LH (Nat.lt_irrefl _)]
      have hb':=List.getElem?_eq_none_iff.1 hb
      rcases L7 ((List.range k).filterMap fun i=>((cs.map aa.cm)[i]?).map (Pl.VW f evd i)).length k with h8 | h8
      · have:=ha _ h8
        rw [L8 (LP _)] at this
        cases this
      · omega
     rw [List.range_succ,List.filterMap_append]
     rcases Nat.lt_trichotomy i k with hi | rfl | hi
     · rw [L3 Ta,ih Ta i,LI hi,LI Ta]
     · rw [L6 Ta,hlen,Nat.sub_self,LI Ta]
       simp only [List.filterMap_cons,List.filterMap_nil]
       rw [La (show i<(cs.map aa.cm).length by omega)]
       rfl
     · rw [L6 Ta,hlen,LH Ta]
       simp only [List.filterMap_cons,List.filterMap_nil]
       rw [La (show k<(cs.map aa.cm).length by omega)]
       simp only [Option.map_some]
       exact L8 (by simp; omega)
   rw [jbY _ (LP _)]
   by_cases hi:i<(cs.map aa.cm).length
   · rw [LI hi]
   · rw [LH hi,L8 Ta]; rfl
  rw [jbX]
  unfold Pl.ea
  refine pW (fun z hz hq c hc=>?_) (fun z hz hq c hc=>?_) fun z hz=>?_
  · have Hw:=Pl.XK.1 hz
    simp only [dT,Ls,not_or] at hq
    have b6:=Pl.Jl (Pl.Jw (h.one c (Ld hc))).1
    have hk:c.k≠2:=fun h2=>hq.1 (im.2 ⟨Hw.1,Hw.2,by rw [Lt] at hc; obtain ⟨x,hx,rfl⟩:=Option.map_eq_some_iff.1 hc; rw [hx]; exact LM some h2⟩)
    refine ⟨?_,by simp [hk]⟩
    rw [hc]
    simp only [Option.map_some]
    unfold Pl.VW
    rw [LH fun h9=>hq.2 (by have:=h9.2; rwa [show ((z.toNat:Nat):Int)=z by omega] at this)]
  · have Hw:=Pl.XK.1 hz
    obtain ⟨x,hx,rfl⟩:=Option.map_eq_some_iff.1 hc
    simp only [dF,Classical.not_not,Ls] at hq
    rcases hq with hq | hq
    · have h2:=(im.1 hq).2.2
      rw [Lt] at hx
      obtain ⟨y,hy,rfl⟩:=Option.map_eq_some_iff.1 hx
      rw [hy] at h2
      have h3:y.cm.k=2:=by
       have h9:y.k=2:=by simpa using h2
       exact h9
      unfold Pl.VW
      rw [LH fun h9=>by have:=h9.1; omega]
      simp [h3]
    · have b6:=Pl.Jl (Pl.Jw (h.one x (Ld hx))).1
      have FE:=Bq z hq
      have dq:x.k=1:=by
       rcases b6.1 with h9 | h9
       · exact h9.1
       · exfalso
         refine FE (im.2 ⟨Hw.1,Hw.2,?_⟩)
         rw [Lt] at hx
         obtain ⟨y,hy,rfl⟩:=Option.map_eq_some_iff.1 hx
         rw [hy]
         exact LM some h9.1
      unfold Pl.VW
      rw [LI ⟨dq,by rw [show ((z.toNat:Nat):Int)=z by omega]; exact hq⟩]
      rfl
  · have Hw:=Pl.XK.1 hz
    rw [La (by rw [Lj]; omega)]
    rfl
 exact (h1.append hp).trans<|List.perm_append_comm.trans<|List.filter_append_perm (fun c:Pl.Cm=>decide (c.k=2)) _
theorem nE{cms:List Pl.Cm}:∀ {ord:Tj},(∀ z∈ord,(cms[z.toNat]?).isSome=true)→∀ i:Nat,(Pl.Xd cms ord)[i]?=(ord[i]?).bind fun z:Int=>cms[z.toNat]?
 | [],_,i=>by simp [Pl.Xd]
 | z::r,h,i=>by
  obtain ⟨c,hc⟩:=Option.isSome_iff_exists.1 (h z (Lo ..))
  have ih:=nE (ord:=r) fun y hy=>h y (LX _ hy)
  unfold Pl.Xd at *
  rw [List.filterMap_cons,hc]
  cases i with
  | zero=>simp [hc]
  | succ i=>simp only [LW]; exact ih i
theorem uV{o n:Int}{f:Th}{cs:List aa}{ds:List Pl.Cm}(h:Pl.VD o n (cs.map aa.cm))(ha:Pl.ET f cs ds):Pl.Safe ds:=by
 obtain ⟨E,evd,ord,ls,rfl,hp,-,hE,wW,fh,-,hrg⟩:=ha
 intro i j ci cj eZ hi hj hr
 have hk:ci.k=1:=by
  unfold Pl.SE at hr
  by_cases hk:ci.k=1
  · exact hk
  · rw [LI hk] at hr; omega
 have Q':∀ z∈ord,((cs.map aa.cm)[z.toNat]?).isSome=true:=fun z hz=>by
  have:=Pl.Vh.1 ((fh.part z).2 (.inl hz))
  rw [La (by rw [Lj]; omega)]
  rfl
 have KA:i<(Pl.Xd (cs.map aa.cm) ord).length:=by
  rcases L7 i (Pl.Xd (cs.map aa.cm) ord).length with aX | iA
  · exact aX
  · exfalso
    rw [L6 iA] at hi
    have:=(L5.1 (hp.mem_iff.1 (Ld hi))).2
    simp only [dT] at this
    omega
 rw [L3 KA,nE Q'] at hi
 rw [L3 Ta,nE Q'] at hj
 obtain ⟨zi,hzi,yc⟩:=Option.bind_eq_some_iff.1 hi
 obtain ⟨zj,hzj,wN⟩:=Option.bind_eq_some_iff.1 hj
 rw [Lt] at yc wN
 obtain ⟨a,haa,rfl⟩:=Option.map_eq_some_iff.1 yc
 obtain ⟨b,hbb,rfl⟩:=Option.map_eq_some_iff.1 wN
 have WD:=Pl.Vh.1 ((fh.part zi).2 (.inl (Ld hzi)))
 have hrj:=Pl.Vh.1 ((fh.part zj).2 (.inl (Ld hzj)))
 obtain ⟨ki,dY⟩:=Le.1 hzi
 obtain ⟨dW,On⟩:=Le.1 hzj
 have bO:zi≠zj:=fun e=>by
  have:=(List.pairwise_iff_getElem.1 fh.nd) j i dW ki eZ
  exact this (by rw [dY,On,e])
 have kM:Pl.cf a b=true:=by
  unfold Pl.SE at hr
  rw [LH (by rw [hk]; simp),Pl.gQ] at hr
  unfold Pl.cf
  have y9:a.k=1:=hk
  have e1:a.cm.fr=a.fr:=rfl
  have e2:a.cm.ln=a.ln:=rfl
  have e3:b.cm.to=b.to:=rfl
  rw [LQ y9,Bool.true_and,kD]
  omega
 have hEe:(zi,zj)∈E:=(hE _).2 ⟨zi.toNat,zj.toNat,a,b,by rw [show ((zi.toNat:Nat):Int)=zi by omega,show ((zj.toNat:Nat):Int)=zj by omega],Ta,Ta,haa,hbb,kM⟩
 have ht:=fh.topo j zj hzj zi (Pl.Zc.2 hEe) ((fh.part zi).2 (.inl (Ld hzi)))
 obtain ⟨k,dq,iB⟩:=LU ht
 rw [Lg] at dq
 rw [List.getElem_take] at iB
 have:=(List.pairwise_iff_getElem.1 fh.nd) k i Ta ki Ta
 exact this (by rw [iB,dY])
theorem EW{ds:List aa}(h:Pl.Safe (ds.map aa.cm)):∀ i c,ds[i]?=some c→(decide (c.k=1)&&((ds.take i).map Pl.nQ).any fun e=>(Pl.aL (Pl.br c.cm).1 (Pl.br c.cm).2 e.1 e.2).isSome)=false:=fun i c hi=>by
 rw [Bool.and_eq_false_imp]
 intro hk
 simp only [dT] at hk
 rw [List.any_eq_false]
 intro e he ho
 obtain ⟨d,hd,rfl⟩:=Ln.1 he
 obtain ⟨j,hj,rfl⟩:=LU hd
 rw [Lg] at hj
 rw [List.getElem_take] at ho
 refine h i j c.cm ds[j].cm Ta (by rw [Lt,hi]; rfl) (by rw [Lt,La Ta]; rfl) ?_
 have y9:c.cm.k=1:=hk
 unfold Pl.SE
 rw [LH (by rw [y9]; simp),Pl.gQ]
 rw [kD] at ho
 unfold Pl.br at ho
 rw [LI y9] at ho
 exact ho
theorem rJ{o n:Int}{f:Th}{cs:List aa}{ds:List Pl.Cm}(ho:o=f.length)(h:Pl.VD o n (cs.map aa.cm))(ha:Pl.ET f cs ds):Pl.VD o n ds∧Pl.bQ f ds n.toNat=Pl.bQ f (cs.map aa.cm) n.toNat∧ds.length=cs.length:=by
 obtain ⟨evd,hp⟩:=EV h ha
 have hl:(cs.map aa.cm).length=cs.length:=Lj _
 rw [← hl] at hp
 have h1:=Io (f:=f) (evd:=evd) ho h
 have h2:=Im h1 hp
 refine ⟨h2,EU ho h h2 fun c hc=>?_,by rw [hp.length_eq,AY,hl]⟩
 obtain ⟨i,hi,rfl⟩:=LU hc
 have h3:=iq (f:=f) (evd:=evd) (i:=i) ho (h.one _ hc)
 exact ⟨_,hp.mem_iff.2 (Ld (i:=i) (by rw [Za,La hi]; rfl)),h3.1,h3.2.1,h3.2.2.1⟩
theorem A0(oo nn:Int)(q:Tg)(cq:Nat)(cs:List aa)(w0:World)(hq:Rd w0 q (cs.flatMap JM))(hl:cs.length≤100)(aq:∀ c∈cs,Q1 w0 c)(cO:∀ c∈cs,c.d.bs.length≤140737488355328)(hv:Pl.VD oo nn (cs.map aa.cm))(r:Tg)(cr:Nat)(f:Th)(hf:Rd w0 r (f.flatMap Jk))(bY:f.length≤cr∧f.length≤1000000)(eD:cr≠0→∀ ad,r=some ad→ad.spot=none)(ho:oo=f.length)(hn:nn≤1000000):C Tryz.prog 22 [.slice r f.length cr,.agg ⟨aZ oo nn (Pl.hh (Pl.bu f) (Pl.bu (Pl.bQ f (cs.map aa.cm) nn.toNat))) q cs.length cq⟩] w0 fun v w'=>∃ (ds:List aa) (p:Tg) (n cap g:Nat) (b:ag) (B:Tf),v=.tuple ⟨[.agg ⟨aZ oo nn (Pl.hh (Pl.bu f) (Pl.bu (Pl.bQ f (cs.map aa.cm) nn.toNat))) p n cap⟩,.agg ⟨[.int .i64 0,.int .i64 0]⟩]⟩∧Acc 60 5 p n cap (ds.flatMap JM) g b∧Pl.ET f cs (ds.map aa.cm)∧(∀ y∈ds,bh B 5 y.d)∧Mem w0 w' No ((g,b)::B):=by
 have b6:∀ c∈cs,Pl.av c.cm=0:=fun c hc=>(Pl.Jw (hv.one c.cm (Ln.2 ⟨c,hc,rfl⟩))).1
 have oq:∀ c∈cs,c.k=1→c.fr+c.ln≤f.length:=fun c hc hk=>by have h9:=(Pl.Jw (hv.one c.cm (Ln.2 ⟨c,hc,rfl⟩))).2.1 hk; rw [← ho]; exact h9
 have Ak:(cs.map Pl.nQ).Pairwise Pl.KN:=by
  have h9:=KX hv
  rw [List.pairwise_map] at h9 ⊢
  exact h9.imp fun h=>h
 refine aH Tryz.func22 fun κ _ Je Jc hm=>?_
 refine au 2 ?_
 refine bT hm fun m3 w hm=>?_
 refine aT hm fun m4 w hm=>?_
 refine aT hm fun m5 w hm=>?_
 refine au 6 ?_
 refine Ja rfl rfl (Jm (s:=67) (vs:=aZ oo nn (Pl.hh (Pl.bu f) (Pl.bu (Pl.bQ f (cs.map aa.cm) nn.toNat))) _ _ _) rfl ag26.h (hm.nt 2 rfl) rfl) ?_
 have cM:=DV oo nn q cq cs _ (hq.Jj hm.to) hl (fun c hc=>Q1.mono (aq c hc) hm.to) cO hv r cr f (hf.Jj hm.to) bY eD ho hn
 refine cA rfl rfl rfl cM hm fun w hm=>aT hm fun m6 w hm=>?_
 refine st hm 0 fun w hm=>?_
 refine au 6 ?_
 refine Ja rfl rfl (JA (c:=false) (jo rfl rfl iii46) Tb)<|au 5 ?_
 refine Xc (ι:=List aa×Ow×List (Nat×ag)) rfl (ks:=[0,3,4,5]) Tn (fun x=>[]) (fun x w=>Mem w0 w No ((m4,.row 26 (aZ oo nn (Pl.hh (Pl.bu f) (Pl.bu (Pl.bQ f (cs.map aa.cm) nn.toNat))) x.2.1.p x.2.1.n x.2.1.cap))::(m5,.row 46 [.int .i64 0,.int .i64 0])::(x.2.1.g,x.2.1.b)::x.2.2)∧Acc 60 5 x.2.1.p x.2.1.n x.2.1.cap (x.1.flatMap JM) x.2.1.g x.2.1.b∧Pl.ET f cs (x.1.map aa.cm)∧(∀ y∈x.1,bh x.2.2 5 y.d)) ?_ (fun x w hM=>?_)
 ·
  refine JS (.pure 0 (.pure 1 (.pure 2 (.pure 3 (.pure 6 (.act 4 (.act 5 (.act 7 (.cut (.act 8 .done)))))))))) (fun j=>j=m4) fP Te hm fun w hw ar hh=>?_
  have hm:=ar
  refine Ja rfl rfl (Jm (s:=67) (vs:=aZ oo nn (Pl.hh (Pl.bu f) (Pl.bu (Pl.bQ f (cs.map aa.cm) nn.toNat))) _ _ _) rfl ag26.h (ar.nd 3 rfl (ar.ne 3 2 rfl rfl rfl)) rfl)<|au 2 ?_
  refine Ja rfl rfl (Jh rfl sc24.h (ar.nd 3 rfl (ar.ne 3 2 rfl rfl rfl)) rfl)<|au 1 ?_
  refine ca rfl rfl rfl (AX r cr f q cq cs _ (hf.Jj hm.to) bY eD (hq.Jj hm.to) Ta (fun c hc=>Q1.mono (aq c hc) hm.to) cO b6 Ak oq) fun v w hR=>?_
  obtain ⟨ds,dJ,KR,aM,cD,dK,B_o,rfl,az,WO,hHo,eM,ae⟩:=hR
  refine ⟨hh.ext ae.to,?_⟩
  replace hm:=hm.VZ ae
  obtain rfl:=az.QB Jf Tb
  replace hh:=hh.ext ae.to
  obtain ⟨WQ,-,hdl2⟩:=rJ ho hv WO
  refine ca rfl rfl rfl (by exact nl oo nn (Pl.hh (Pl.bu f) (Pl.bu (Pl.bQ f (cs.map aa.cm) nn.toNat))) q cs.length cq dJ aM ds _ (az.rd hm 0 rfl) (fun y hy=>Ya hm (hHo y hy) (by intro e he; simp [he]) (WQ.one _ (Ln.2 ⟨y,hy,rfl⟩))) Ta (fun y hy=>V5 WQ hn y hy)) fun v w hR=>?_
  obtain ⟨fk,aK,dE,aj,aI,aF,ry,rfl,ah,cY,dy,ae⟩:=hR
  refine ⟨hh.ext ae.to,?_⟩
  replace hh:=hh.ext ae.to
  replace hm:=hm.VZ ae
  obtain rfl:=ah.QB Jf Tb
  refine QO rfl rfl rfl rfl sz26 rfl hm 4 rfl rfl hh (.inr rfl) fun w hm hh=>?_
  replace hm:=Xu hm rfl
  refine au 1 ?_
  refine st hm 3 fun w hm=>?_
  refine au 1 ?_
  exact Qt (fk,⟨aK,_,aj,aI,aF⟩,_) ⟨(hm.Jp [4,3,0] 6 rfl),ah,by simp only; rw [cY]; exact WO,fun y hy=>(dy y hy).right⟩ Tm
 ·
  obtain ⟨hm,fJ,jbZ,hHx⟩:=hM
  refine au 1 ?_
  refine dD (fin Je rfl (.cell rfl (Ju (vs:=aZ oo nn (Pl.hh (Pl.bu f) (Pl.bu (Pl.bQ f (cs.map aa.cm) nn.toNat))) _ _ _) ag26.h (hm.get (k:=0) rfl) rfl) (.cell rfl (Ju (vs:=[_,_]) ag46.h (hm.get (k:=1) rfl) rfl) .nil)) .more ?_)
  exact ⟨x.1,_,_,_,_,_,x.2.2,rfl,fJ,jbZ,hHx,(hm.Jp [2] 3 rfl)⟩
def ox(e:Int):List PanicEntry:=[{ v:=.iface 35 (.int .i64 e),recovered:=false }]
end Go.Proofs.YtaehgpeenaomcaaGreat
namespace Go.Pl
open Go Go.Cx Go.Proofs.YtaehgpeenaomcaaGreat
def dB(D:Pl.Dv)(a:Nat)(BB:Th):Int×Pl.Dv:=
 if (Pl.cg a BB (Pl.sN D.sz a BB.length) (Pl.sF D.sz a BB.length) D).1≠0 then Pl.cg a BB (Pl.sN D.sz a BB.length) (Pl.sF D.sz a BB.length) D
 else (Pl.QS (Pl.cg a BB (Pl.sN D.sz a BB.length) (Pl.sF D.sz a BB.length) D).2,Pl.fe (Pl.cg a BB (Pl.sN D.sz a BB.length) (Pl.sF D.sz a BB.length) D).2)
end Go.Pl
namespace Go.Proofs.YtaehgpeenaomcaaGreat
open Go Go.Cx
theorem YZ(e:Int)(w0:World):CE Tryz.prog 235 [.int .i64 e] w0 (fun v w'=>(v=.tuple ⟨[]⟩∧e=0)∧Ext No w0 w') fun c w'=>(c=ox e∧e≠0)∧Ext No w0 w':=by
 refine sw Tryz.func235 rfl rfl rfl fun κ _ Je Jc fq=>?_
 have hm:=Mem.start w0
 refine au 6 ?_
 refine cd (fun ai=>?_) fun ai=>?_
 ·
  simp only [dT] at ai
  exact JT (.pure 0 (.pure 1 (.act 2 .done))) Te<|Ja rfl rfl (Jx rfl)<|Ja rfl rfl (xp rfl un35 rfl)<|GS rfl rfl rfl fun a eo=>fq _ a _ eo.defers<|⟨⟨rfl,ai⟩,hm.to⟩
 ·
  simp only [dF,Classical.not_not] at ai
  refine au 1 ?_
  refine eK (fin Jc rfl .nil .nil ?_)
  exact ⟨⟨rfl,ai⟩,hm.to⟩
theorem uW(a:Nat)(bs:Th):∀ (n i:Nat) (D:Pl.Dv),(Pl.cg a bs n i D).2.ca.length≤D.ca.length+n
 | 0,i,D=>by simp [Pl.cg]
 | n+1,i,D=>by
  unfold Pl.cg
  split
  · simp only; omega
  · split
    · have:=(Pl.mH D (i:Int) (Pl.VK D.sz (Pl.ej D (i:Int)) a bs i)).2.2
      simp only; omega
    · have h1:=uW a bs n (i+1) (Pl.lY D (i:Int) (Pl.VK D.sz (Pl.ej D (i:Int)) a bs i))
      have h2:=(Pl.mH D (i:Int) (Pl.VK D.sz (Pl.ej D (i:Int)) a bs i)).2.2
      omega
theorem WR{sz cnt a n:Nat}(hs:1≤sz)(h:a+n≤cnt*sz):Pl.sN sz a n≤cnt:=by
 unfold Pl.sN
 split
 · omega
 · have h1:(a+n-1)/sz<cnt:=Nat.div_lt_of_lt_mul (by rw [Nat.mul_comm]; omega)
   generalize (a+n-1)/sz=x at *
   generalize a/sz=y at *
   omega
theorem ir(D:Pl.Dv)(md:Nat)(Z:Tf)(ma:Nat)(l:Ti)(oa:Nat)(q:Tg)(cq:Nat)(BB:Th)(w0:World)(hZ:Jr w0 Z)(hz:JV 112 258 5 D md Z)(hr:w0.heap[ma]?=some (ag.row 183 (.pointer (some ⟨md,0,none⟩)::l)).Jd)(KY:¬ Mn (ak Z) ma)(bM:Pl.eF D (oa:Int) (BB.length:Int)=true)(hq:Rd w0 q (BB.flatMap Jk))(hqZ:BB.flatMap Jk≠[]→∀ ad,q=some ad→¬ Mn (ak Z) ad.block)(hb:BB.length≤140737488355328)(bL:D.ca.length+D.cnt≤500000000):CE Tryz.prog 237 [.pointer (some ⟨ma,0,none⟩),.int .i64 (oa:Int),.slice q BB.length cq] w0 (fun v w'=>(v=.tuple ⟨[]⟩∧(Pl.dB D oa BB).1=0)∧∃ Z',JV 112 258 5 (Pl.dB D oa BB).2 md Z'∧Mem w0 w' (Mn (ak Z)) Z') fun c w'=>(c=ox (Pl.dB D oa BB).1∧(Pl.dB D oa BB).1≠0)∧∃ Z',JV 112 258 5 (Pl.dB D oa BB).2 md Z'∧Mem w0 w' (Mn (ak Z)) Z':=by
 have aq:=hz.ok
 have hsz:1≤D.sz:=aq.sz
 have jb0:=Pl.JJ.1 bM
 have kz:=WR (cnt:=D.cnt) (a:=oa) (n:=BB.length) hsz Ta
 have b6:=uW oa BB (Pl.sN D.sz oa BB.length) (Pl.sF D.sz oa BB.length) D
 have yG:=hr
 refine sw Tryz.func237 rfl rfl rfl fun κ _ Je Jc fq=>?_
 have hm:=hZ.start
 refine au 5 ?_
 refine Ja rfl rfl (Jh rfl sc67.h (Qo yG) rfl)<|au 2 ?_
 refine Jb (l:=[_]) rfl rfl sl88.h z22.h rfl rfl rfl rfl rfl rfl rfl hm trivial fun m3 w dX hm hh=>cT rfl rfl rfl (gV D md Z oa _ 1 [⟨q,cq,BB⟩] BB _ (Jr.right (A:=[_]) hm.Jz) hz bM (Rd.JL (hm.get (k:=0) rfl)) (by intro s9 eT; rw [Lf.1 eT]; exact hq.Yu hm.to hqZ) Tc Tc hb Ta) fun v w hR=>?_
 obtain ⟨rfl,Z1,bZ,ae⟩:=hR
 replace hm:=Mem.JQ (A:=[_]) hm ae
 have yG:=(hm.to.same ma (Lb.1 hr).1 KY).trans hr
 have fS:Pl.dB D oa BB=if (Pl.cg oa BB (Pl.sN D.sz oa BB.length) (Pl.sF D.sz oa BB.length) D).1≠0 then (Pl.cg oa BB (Pl.sN D.sz oa BB.length) (Pl.sF D.sz oa BB.length) D) else (Pl.QS (Pl.cg oa BB (Pl.sN D.sz oa BB.length) (Pl.sF D.sz oa BB.length) D).2,Pl.fe (Pl.cg oa BB (Pl.sN D.sz oa BB.length) (Pl.sF D.sz oa BB.length) D).2):=rfl
 generalize (Pl.cg oa BB (Pl.sN D.sz oa BB.length) (Pl.sF D.sz oa BB.length) D)=W1 at bZ fS b6 ⊢
 refine Vo rfl rfl rfl go235 (YZ _ _) (fun c w hE a eo=>fq c a w eo.defers ?_) fun v w hR=>?_
 ·
  obtain ⟨⟨rfl,dh⟩,hE⟩:=hE
  have F2:Pl.dB D oa BB=W1:=by rw [fS,LI dh]
  rw [F2]
  exact ⟨⟨rfl,dh⟩,Z1,bZ,(hm.Jp [] 1 rfl).ext hE⟩
 obtain ⟨⟨rfl,dh⟩,hE⟩:=hR
 refine ⟨trivial,?_⟩
 replace hm:=hm.ext hE
 have yG:=(hm.to.same ma (Lb.1 hr).1 KY).trans hr
 refine au 6 ?_
 refine Ja rfl rfl (Jh rfl sc67.h (Qo yG) rfl)<|cT rfl rfl rfl (gU W1.2 md Z1 _ (Jr.right (A:=[_]) hm.Jz) bZ Ta) fun v w hR=>?_
 obtain ⟨rfl,Z2,da,ae⟩:=hR
 replace hm:=Mem.JQ (A:=[_]) hm ae
 have F2:Pl.dB D oa BB=(Pl.QS W1.2,Pl.fe W1.2):=by rw [fS,LH (fun h=>h dh)]
 refine Vo rfl rfl rfl go235 (YZ _ _) (fun c w hE a eo=>fq c a w eo.defers ?_) fun v w hR=>?_
 ·
  obtain ⟨⟨rfl,oy⟩,hE⟩:=hE
  rw [F2]
  exact ⟨⟨rfl,oy⟩,Z2,da,(hm.Jp [] 1 rfl).ext hE⟩
 obtain ⟨⟨rfl,dh⟩,hE⟩:=hR
 refine ⟨trivial,?_⟩
 replace hm:=hm.ext hE
 have yG:=(hm.to.same ma (Lb.1 hr).1 KY).trans hr
 refine au 1 ?_
 refine eK (fin Jc rfl .nil .nil ?_)
 rw [F2]
 exact ⟨⟨rfl,dh⟩,Z2,da,(hm.Jp [] 1 rfl)⟩
theorem uX{w w':World}{Z:Tf}{Y:Bs}(h:Jr w Z)(hx:Ext Y w w')(hY:∀ k,Mn (ak Z) k→¬ Y k):Jr w' Z:=
 ⟨fun p hp hr=>by
  have h1:=h.1 p hp hr
  exact (hx.same p.1 (Lb.1 h1).1 (hY _ (JD.2 ⟨p.2,hp,hr⟩))).trans h1,h.2⟩
end Go.Proofs.YtaehgpeenaomcaaGreat
namespace Go.Cx
open Go Go.Cx Go.Proofs.YtaehgpeenaomcaaGreat
theorem CE.c{P:Program}{f:FuncId}{vs:Ti}{w:World}{R:Value→World→Prop}{E:List PanicEntry→World→Prop}(h:CE P f vs w R E)(hE:∀ c w,¬ E c w):C P f vs w R:=
 Calls.mono h fun e w' h9=>by
  cases e with
  | returned v=>exact ⟨v,rfl,h9⟩
  | panicked c=>exact absurd h9 (hE _ _)
  | outgrown=>exact h9.elim
end Go.Cx
namespace Go.Proofs.YtaehgpeenaomcaaGreat
open Go Go.Cx
theorem EX{w0 w:World}{X:Bs}{A Z:Tf}{e es n cap g k:Nat}{b:ag}{p:Tg}{cells:Ti}(hm:Mem w0 w X (A++Z))(hk:aR A k=some (g,b))(h:Acc e es p n cap cells g b):cells≠[]→∀ ad,p=some ad→¬ Mn (ak Z) ad.block:=fun hc ad hp=>by
 obtain ⟨h1,h2⟩:=h.GD hc
 rw [h1] at hp; cases hp
 exact Mem.qG hm hk h2
theorem Ip(e:Int)(he:e=0)(w0:World):C Tryz.prog 235 [.int .i64 e] w0 fun v w'=>v=.tuple ⟨[]⟩∧Ext No w0 w':=
 ((YZ e w0).c fun c w h=>h.1.2 he).mono fun v w h=>⟨h.1.1,h.2⟩
theorem w6(D:Pl.Dv)(md:Nat)(Z:Tf)(ma:Nat)(bnd pk:Int)(l:Ti)(a n:Nat)(w0:World)(hZ:Jr w0 Z)(hz:JV 112 258 5 D md Z)(hr:w0.heap[ma]?=some (ag.row 183 (.pointer (some ⟨md,0,none⟩)::.int .i64 bnd::.int .i64 pk::l)).Jd)(KY:¬ Mn (ak Z) ma)(bM:Pl.eF D (a:Int) (n:Int)=true)(eB:D.dn=false):C Tryz.prog 234 [.pointer (some ⟨ma,0,none⟩),.agg ⟨[.int .i64 (a:Int),.int .i64 (n:Int)]⟩] w0 fun v w'=>∃ q c g b,v=.slice q (Pl.bw D (a:Int) (n:Int)).length c∧Acc 5 1 q (Pl.bw D (a:Int) (n:Int)).length c ((Pl.bw D (a:Int) (n:Int)).flatMap Jk) g b∧Mem w0 w' (fun k=>k=ma) [(g,b),(ma,.row 183 (.pointer (some ⟨md,0,none⟩)::.int .i64 bnd::.int .i64 (max pk (Pl.bw D (a:Int) (n:Int)).length)::l))]:=by
 have fC:=Pl.XB eB bM
 refine Vk Tryz.func234 rfl rfl rfl fun κ _ Je Jc=>?_
 have hm:=Mem.Vq hr
 refine au 2 ?_
 refine bT hm fun m3 w hm=>?_
 refine au 4 ?_
 refine dw [0,3,6,9,12,16,18,21,24,27,30] hm fun w hw ar hh hm=>?_
 refine au 5 ?_
 refine ca rfl rfl rfl (DA D md Z a n _ (uX hZ hm.to fun k h1 h2=>KY (h2▸h1)) hz bM) fun v w hR=>?_
 obtain ⟨bU,aB,cQ,cL,rfl,ay,ae⟩:=hR
 refine ⟨hh.ext ae.to,?_⟩
 replace hh:=hh.ext ae.to
 replace hm:=hm.Jt ae
 rw [fC]
 refine au 10 ?_
 refine cA rfl rfl rfl (Ip 0 rfl _) hm fun w hm=>au 14 ?_
 refine st hm 2 fun w hm=>?_
 refine au 10 ?_
 exact ⟨_,_,_,_,rfl,ay,(hm.pick [0,2] rfl)⟩
theorem w7(D:Pl.Dv)(md:Nat)(Z:Tf)(ma:Nat)(bnd pk:Int)(l:Ti)(a n:Nat)(mh:Nat)(msg:Th)(Zh:Tf)(w0:World)(hZ:Jr w0 Z)(hz:JV 112 258 5 D md Z)(uR:VN 126 5 msg mh Zh)(FA:msg.length≤1000000000)(hO:Jr w0 ((ma,.row 183 (.pointer (some ⟨md,0,none⟩)::.int .i64 bnd::.int .i64 pk::l))::Zh))(hr:w0.heap[ma]?=some (ag.row 183 (.pointer (some ⟨md,0,none⟩)::.int .i64 bnd::.int .i64 pk::l)).Jd)(KY:¬ Mn (ak Z) ma)(bM:Pl.eF D (a:Int) (n:Int)=true)(eB:D.dn=false)(hZh:∀ k,Mn (ak Z) k→¬ Mn (ak Zh) k)(zW:1≤bnd∧bnd≤1000000):C Tryz.prog 233 [.pointer (some ⟨ma,0,none⟩),.pointer (some ⟨mh,0,none⟩),.agg ⟨[.int .i64 (a:Int),.int .i64 (n:Int)]⟩] w0 fun v w'=>v=.tuple ⟨[]⟩∧∃ nT Iq,VN 126 5 (msg++(Pl.bw D (a:Int) (n:Int))) mh Iq∧pk≤nT∧nT≤max pk bnd∧Mem w0 w' (Mn (ak ((ma,.row 183 (.pointer (some ⟨md,0,none⟩)::.int .i64 bnd::.int .i64 pk::l))::Zh))) ((ma,.row 183 (.pointer (some ⟨md,0,none⟩)::.int .i64 bnd::.int .i64 nT::l))::Iq):=by
 have aq:=hz.ok
 have fC:=Pl.XB eB bM
 have jb0:=Pl.JJ.1 bM
 have fy:=aq.max
 have Mr:=Pl.zV (D:=D) (a:=(a:Int)) (c:=bnd) (show (0:Int)≤(n:Int) by omega)
 refine Vk Tryz.func233 rfl rfl rfl fun κ _ Je Jc=>?_
 have hm:=hO.start
 refine au 2 ?_
 refine bT hm fun m4 w hm=>?_
 refine au 3 ?_
 refine dw [0,3,6,9,12,21,2,16,18] hm fun w hw ar hh hm=>?_
 refine au 7 ?_
 refine cT rfl rfl rfl (z8 (a:Int) (n:Int) bnd _ Ta (by simp only [Pl.aA]; omega)) fun v w hR=>?_
 obtain ⟨aK,aj,aI,aF,N,rfl,hN,ah,ae⟩:=hR
 replace hm:=hm.Jt ae
 have hNm:=Pl.zq (n:Int) bnd
 refine au 4 ?_
 refine Jg (ι:=Nat×Int×List (Nat×ag)) rfl (ks:=[0,1,13,14]) Tn (fun x=>[(15,.int .i64 (x.1:Int))]) (fun x w=>Mem w0 w (Mn (ak ((ma,.row 183 (.pointer (some ⟨md,0,none⟩)::.int .i64 bnd::.int .i64 pk::l))::Zh))) ((aI,aF)::(ma,.row 183 (.pointer (some ⟨md,0,none⟩)::.int .i64 bnd::.int .i64 x.2.1::l))::x.2.2)∧VN 126 5 (msg++Pl.CJ D a n bnd x.1) mh x.2.2∧x.1≤N∧pk≤x.2.1∧x.2.1≤max pk bnd) (fun x=>N-x.1) (0,pk,Zh) (⟨(hm.Jp [0,2] 3 rfl),by rw [Mr,Lq]; exact uR,LL _,Int.le_refl _,Int.le_max_left ..⟩) Tm (fun x w hM=>?_)
 obtain ⟨k,FP,Z1⟩:=x
 obtain ⟨hm,bZ,hk,HB,nO⟩:=hM
 simp only at hm bZ hk HB nO ⊢
 have bY:=Pl.GO aq (a:Int) (n:Int) bnd k
 refine au 6 ?_
 refine cd (fun ai=>?_) fun ai=>?_
 ·
  simp only [dT] at ai
  obtain ⟨Ho,Ak,PY,hd4⟩:=Pl.CK aq eB bM hN (k:=k) Ta
  have hpo:=Pl.zp (a:=(a:Int)) (b:=(n:Int)) (c:=bnd) Ta hN (Pl.piece (a:Int) (n:Int) bnd k) (Ln.2 ⟨k,List.mem_range.2 Ta,rfl⟩)
  obtain ⟨ax,hax⟩:∃ x:Nat,(Pl.piece (a:Int) (n:Int) bnd k).1=x:=⟨(Pl.piece (a:Int) (n:Int) bnd k).1.toNat,Ta⟩
  obtain ⟨Ra,fB⟩:∃ x:Nat,(Pl.piece (a:Int) (n:Int) bnd k).2=x:=⟨(Pl.piece (a:Int) (n:Int) bnd k).2.toNat,Ta⟩
  have hpb:(Ra:Int)≤bnd:=by rw [← fB]; exact Int.min_le_left ..
  have MY:Pl.eF D (ax:Int) (Ra:Int)=true:=Pl.JJ.2 Ta
  have hi:((List.range N).map fun j=>Pl.piece (a:Int) (n:Int) bnd j)[k]?=some (Pl.piece (a:Int) (n:Int) bnd k):=by rw [Lt,List.getElem?_range Ta]; rfl
  have jb1:((List.range N).flatMap fun j=>Q9 (Pl.piece (a:Int) (n:Int) bnd j))=(((List.range N).map fun j=>Pl.piece (a:Int) (n:Int) bnd j).flatMap Q9):=by rw [List.flatMap_map]
  have ah:=ah.to jb1
  obtain ⟨qb,qo,rfl⟩:=(ah.rd hm 0 rfl).bS QM Tb hi
  have Cy:((Pl.bw D (ax:Int) (Ra:Int)).length:Int)≤bnd:=by unfold Pl.bw; split <;> simp only [Lg,LA] <;> omega
  refine au 7 ?_
  refine Ja rfl rfl (JU rfl ag32.h (ah.rd hm 0 rfl).nt QM hi)<|aT hm fun m7 w hm=>?_
  refine st hm 0 fun w hm=>?_
  refine au 5 ?_
  refine Ja rfl rfl (cy (Jm (s:=2) (vs:=[_,_]) rfl ag32.h (hm.nt 0 rfl) rfl) (LM (fun x=>Value.agg ⟨x⟩) (by unfold Q9; rw [hax,fB]:Q9 (Pl.piece (a:Int) (n:Int) bnd k)=[.int .i64 (ax:Int),.int .i64 (Ra:Int)])))<|cT rfl rfl rfl (w6 D md Z ma bnd FP l ax Ra _ (uX hZ hm.to (fun k9 h1 h2=>by rcases JD.1 h2 with ⟨b9,h3,h4⟩; rcases LR.1 h3 with h5 | h5; exact KY (by cases h5; exact h1); exact hZh k9 h1 (JD.2 ⟨b9,h5,h4⟩))) hz (hm.get (k:=2) rfl) KY MY eB) fun v w hR=>?_
  obtain ⟨bU,aB,cQ,cL,rfl,ay,ae⟩:=hR
  replace hm:=hm.Qv (N:=[(cQ,cL)]) 2 rfl (ae.pick [1,0] rfl)
  refine Jb (l:=[_]) rfl rfl sl88.h z22.h rfl rfl rfl rfl rfl rfl rfl hm trivial fun m8 w WS hm hh=>cT rfl rfl rfl (kr _ 1 [⟨bU,aB,Pl.bw D (ax:Int) (Ra:Int)⟩] 126 mh (msg++Pl.CJ D a n bnd k) Z1 _ (Jr.right (A:=[_,_,_,_,_]) hm.Jz) bZ (by rw [Lc]; omega) (Rd.JL (hm.get (k:=0) rfl)) (by intro s9 eT; rw [Lf.1 eT]; exact ay.rd hm 1 rfl) (fun _ ad h=>by cases h; exact Mem.qG (A:=[_,_,_,_,_]) hm (k:=0) rfl) (by intro s9 eT; rw [Lf.1 eT]; exact EX (A:=[_,_,_,_,_]) (k:=1) hm rfl ay) Tc (by simp only [Lk,LY,Lq,Lc]; omega)) fun v w hR=>?_
  obtain ⟨rfl,Z9,eC,ae⟩:=hR
  replace hm:=Mem.JQ (A:=[_,_,_,_,_]) hm ae
  simp only [Lk,LY,Lq] at eC
  rw [hax,fB] at hd4
  refine au 7 ?_
  exact next (k+1,_,Z9) Td ⟨(hm.Jp [3,4] 5 rfl),by simp only; rw [hd4,← Lp]; exact eC,Td,Td,Td⟩ ⟨nx k,Tm⟩
 ·
  simp only [dF] at ai
  have b8:k=N:=by omega
  rw [b8,Pl.CL aq eB bM zW.1 hN] at bZ
  refine au 4 ?_
  refine eK (fin Jc rfl .nil .nil ?_)
  exact ⟨rfl,FP,Z1,bZ,HB,nO,(hm.Jp [1] 2 rfl)⟩
end Go.Proofs.YtaehgpeenaomcaaGreat
namespace Go.Pl
open Go Go.Cx Go.Proofs.YtaehgpeenaomcaaGreat
structure Ap where
 D:Pl.Dv
 S:Pl.Jn
 st:Int
 nx:Int
 sg:Bool
def Ap.adv(A:Pl.Ap):Pl.Ap:=⟨A.D,A.S,1,A.nx+1,false⟩
def JB(b:Int)(cs:List Pl.Cm)(i:Nat):Pl.Cm:=(((Pl.steps b 0 cs)[i]?).map (·.2)).getD Pl.Gk
def JF(b:Int)(cs:List Pl.Cm):Int:=Pl.first b cs cs.length
def Ap.fK(A:Pl.Ap):Int×Pl.Ap:=
 if (Pl.dB A.D (Pl.dG A.S).of.toNat (Pl.dG A.S).bs).1≠0 then ((Pl.dB A.D (Pl.dG A.S).of.toNat (Pl.dG A.S).bs).1,⟨(Pl.dB A.D (Pl.dG A.S).of.toNat (Pl.dG A.S).bs).2,A.S,A.st,A.nx,A.sg⟩)
 else (0,⟨(Pl.dB A.D (Pl.dG A.S).of.toNat (Pl.dG A.S).bs).2,A.S,1,A.nx+1,false⟩)
def Ap.lD(A:Pl.Ap)(d:Pl.Cm):List UInt8:=if d.k=1 then Pl.bw A.D d.fr d.ln else d.bs
def Ap.put(A:Pl.Ap)(J:Int×Pl.Dv×Pl.Jn)(o:Int)(bs:Th):Int×Pl.Ap:=
 if J.1≠0 then (J.1,⟨J.2.1,J.2.2,A.st,A.nx,A.sg⟩)
 else if (Pl.dB J.2.1 o.toNat bs).1≠0 then ((Pl.dB J.2.1 o.toNat bs).1,⟨(Pl.dB J.2.1 o.toNat bs).2,J.2.2,A.st,A.nx,A.sg⟩)
 else (0,⟨(Pl.dB J.2.1 o.toNat bs).2,J.2.2,1,A.nx+1,false⟩)
def Ap.exec(f N:Nat)(b k:Int)(cs:List Pl.Cm)(A:Pl.Ap):Int×Pl.Ap:=
 A.put (Pl.aP A.D f N b A.S (Pl.aW A.S k A.nx (Pl.JB b cs A.nx.toNat).to (A.lD (Pl.JB b cs A.nx.toNat)))) (Pl.JB b cs A.nx.toNat).to (A.lD (Pl.JB b cs A.nx.toNat))
def Ap.fin(f N:Nat)(b k:Int)(cs:List Pl.Cm)(A:Pl.Ap):Int×Pl.Ap:=
 if (Pl.aP A.D f N b A.S (Pl.aW A.S k (Pl.JF b cs) 0 [])).1≠0 then ((Pl.aP A.D f N b A.S (Pl.aW A.S k (Pl.JF b cs) 0 [])).1,⟨(Pl.aP A.D f N b A.S (Pl.aW A.S k (Pl.JF b cs) 0 [])).2.1,(Pl.aP A.D f N b A.S (Pl.aW A.S k (Pl.JF b cs) 0 [])).2.2,A.st,A.nx,A.sg⟩)
 else (0,⟨(Pl.aP A.D f N b A.S (Pl.aW A.S k (Pl.JF b cs) 0 [])).2.1,(Pl.aP A.D f N b A.S (Pl.aW A.S k (Pl.JF b cs) 0 [])).2.2,2,A.nx,A.sg⟩)
def Ap.step(f N:Nat)(b k:Int)(cs:List Pl.Cm)(A:Pl.Ap):Int×Pl.Ap:=
 if A.st=2 then (0,A) else if A.sg=true then A.fK else if A.nx=Pl.JF b cs then A.fin f N b k cs else A.exec f N b k cs
end Go.Pl
namespace Go.Proofs.YtaehgpeenaomcaaGreat
open Go Go.Cx
structure eH where
 md:Nat
 ma:Nat
 mp:Nat
 f:Nat
 N:Nat
 kk:Int
 bnd:Int
 oo:Int
 nn:Int
 fl:Th
 q:Tg
 cq:Nat
 cs:List aa
 pf:Tg
 pb:Tg
 pl:Tg
 cf:Nat
 cb:Nat
 cl:Nat
 xs:List aa
 F:Tf
def eH.cm(K:eH):List Pl.Cm:=K.cs.map aa.cm
def eH.nw(K:eH):List UInt8:=Pl.bQ K.fl K.cm K.nn.toNat
def eH.H(K:eH):Nat→UInt8:=Pl.hh (Pl.bu K.fl) (Pl.bu K.nw)
structure eH.ok(K:eH):Prop where
 dl:∀ w,Jr w K.F→Rd w K.q (K.cs.flatMap JM)∧∀ c∈K.cs,Q1 w c
 pl:∀ w,Jr w K.F→w.heap[K.mp]?=some (ag.row 286 (MG K.bnd K.pf (J2 K.bnd (K.xs.map aa.cm)).length K.cf K.pb K.cb K.pl K.xs.length K.cl)).Jd∧Rd w K.pf ((J2 K.bnd (K.xs.map aa.cm)).flatMap Go.Cx.encI)∧Rd w K.pb ((beforeL (K.xs.map aa.cm)).flatMap Go.Cx.encI)∧Rd w K.pl (K.xs.flatMap JM)∧∀ x∈K.xs,x.d.jO w∧x.d.bs.length≤140737488355328
 xc:K.xs.map aa.cm=K.cm
 few:K.cs.length≤100
 ol:K.oo=K.fl.length
 vd:Pl.VD K.oo K.nn K.cm
 on:0≤K.oo∧K.oo≤1000000∧0≤K.nn∧K.nn≤1000000
 fw:Pl.ZF K.bnd (K.xs.map aa.cm)
 mx:(K.xs.map aa.cm).length≤1000000∧Pl.first K.bnd (K.xs.map aa.cm) (K.xs.map aa.cm).length≤1000000000
 bn:1≤K.bnd∧K.bnd≤65536
 n0:K.N≠0
 k64:0≤K.kk∧K.kk≤18446744073709551615
 ck:∀ p∈Pl.steps K.bnd 0 K.cm,0≤p.2.to∧(p.2.k=1→0≤p.2.fr∧0≤p.2.ln∧p.2.fr+p.2.ln≤K.oo∧p.2.to+p.2.ln≤K.nn∧p.2.ln≤K.bnd)∧(p.2.k≠1→p.2.to+p.2.bs.length≤K.nn∧(p.2.bs.length:Int)≤K.bnd)
def Rb(md:Nat)(bnd pk:Int)(dl:Ti)(mp j:Nat)(st nx:Int)(sg:Bool):List Value:=
 .pointer (some ⟨md,0,none⟩)::.int .i64 bnd::.int .i64 pk::(dl++[.pointer (some ⟨mp,0,none⟩),.pointer (some ⟨j,0,none⟩),.int .i64 st,.int .i64 nx,.bool sg])
def fR(K:eH)(A:Pl.Ap)(pk:Int)(j:Nat):Nat×ag:=(K.ma,.row 183 (Rb K.md K.bnd pk (aZ K.oo K.nn K.H K.q K.cs.length K.cq) K.mp j A.st A.nx A.sg))
def AZ(K:eH)(A:Pl.Ap)(pk:Int)(Z:Tf):Prop:=
 ∃ j Zj Zd,Z=fR K A pk j::(K.F++(Zj++Zd))∧JZ 271 5 K.md (K.f:Int) K.bnd K.kk A.S j Zj∧JV 112 258 5 A.D K.md Zd
def w8(K:eH)(A:Pl.Ap)(pk:Int)(w w':World)(Z:Tf):Prop:=∃ nT Z',nT≤max pk K.bnd∧AZ K A nT Z'∧Mem w w' (Mn (ak Z)) Z'
end Go.Proofs.YtaehgpeenaomcaaGreat
namespace Go.Pl
open Go Go.Cx Go.Proofs.YtaehgpeenaomcaaGreat
structure SidP(f N:Nat)(b oo nn:Int)(nw:Th)(cs:List Pl.Cm)(A:Pl.Ap):Prop where
 dn:A.D.dn=false
 sl:Pl.slot (A.D.sz:Int) b=(N:Int)
 h2:f+2*N≤A.D.cnt
 hS:0≤A.S.nx∧A.S.nx≤18446744073709551615
 cl:A.D.ca.length+A.D.cnt≤10000000
 nx:0≤A.nx∧A.nx≤Pl.JF b cs
 fo:Pl.eF A.D 0 oo=true
 fn:Pl.eF A.D 0 nn=true
 la:A.S.la.bs.length≤1000000
 sg:A.sg=true→A.nx<Pl.JF b cs∧0≤(Pl.dG A.S).of∧Pl.eF A.D (Pl.dG A.S).of ((Pl.dG A.S).bs.length:Int)=true
 hh:A.st≠2→A.sg=false→A.nx=Pl.JF b cs→Pl.bw A.D 0 nn=nw
end Go.Pl
namespace Go.Proofs.YtaehgpeenaomcaaGreat
open Go Go.Cx
abbrev A3(K:eH)(A:Pl.Ap):Prop:=Pl.SidP K.f K.N K.bnd K.oo K.nn K.nw K.cm A
theorem FQ{w0 w w':World}{X:Bs}{A F Zj Zd Zd':Tf}(h:Mem w0 w X (A++(F++(Zj++Zd))))(hc:Mem w w' (Mn (ak Zd)) Zd'):Mem w0 w' X (A++(F++(Zj++Zd'))):=by
 have h1:Mem w0 w X ((A++F++Zj)++Zd):=by simpa only [Lp] using h
 have h2:=Mem.JQ h1 hc
 simpa only [Lp] using h2
theorem WT{w0 w w':World}{X:Bs}{A F Z Z':Tf}(h:Mem w0 w X (A++(F++Z)))(hc:Mem w w' (Mn (ak Z)) Z'):Mem w0 w' X (A++(F++Z')):=Mem.Cp h hc
theorem j6{w0 w:World}{X:Bs}{A F Zj Zd:Tf}{n k:Nat}{b:ag}(h:Mem w0 w X (A++(F++(Zj++Zd))))(hk:aR A k=some (n,b))(hb:b.real=true:=by rfl):¬ Mn (ak Zd) n:=by
 have h1:Mem w0 w X ((A++F++Zj)++Zd):=by simpa only [Lp] using h
 refine Mem.qG (k:=k) h1 ?_ hb
 rw [kP] at hk ⊢
 rw [Lp,L3 (Le.1 hk).1]
 exact hk
theorem Xs{w:World}{A F Z:Tf}(h:Jr w (A++(F++Z))):Jr w F:=(Jr.right (A:=A) h).left
theorem iu{w:World}{A F Z:Tf}(h:Jr w (A++(F++Z))):Jr w Z:=(Jr.right (A:=A) h).right
theorem w8.mk{K:eH}{A:Pl.Ap}{pk nT:Int}{w w':World}{Z Zj Zd:Tf}{j:Nat}(hp:nT≤max pk K.bnd)(hj:JZ 271 5 K.md (K.f:Int) K.bnd K.kk A.S j Zj)(hz:JV 112 258 5 A.D K.md Zd)(hm:Mem w w' (Mn (ak Z)) (fR K A nT j::(K.F++(Zj++Zd)))):w8 K A pk w w' Z:=
 ⟨nT,_,hp,⟨j,Zj,Zd,rfl,hj,hz⟩,hm⟩
theorem uY(K:eH)(A:Pl.Ap)(pk:Int)(j:Nat)(w0:World)(hr:w0.heap[K.ma]?=some (fR K A pk j).2.Jd)(hn:0≤A.nx∧A.nx≤1000000000):C Tryz.prog 238 [.pointer (some ⟨K.ma,0,none⟩)] w0 fun v w'=>v=.tuple ⟨[]⟩∧Mem w0 w' (fun k=>k=K.ma) [fR K A.adv pk j]:=by
 refine Vk Tryz.func238 rfl rfl rfl fun κ _ Je Jc=>?_
 have hm:=Mem.Vq hr
 refine au 6 ?_
 refine st hm 0 fun w hm=>?_
 refine au 2 ?_
 refine st hm 0 fun w hm=>?_
 refine au 10 ?_
 refine st hm 0 fun w hm=>?_
 refine au 1 ?_
 refine eK (fin Jc rfl .nil .nil ?_)
 exact ⟨rfl,hm⟩
theorem O5(K:eH)(A:Pl.Ap)(pk:Int)(j:Nat)(Zj Zd:Tf)(w0:World)(hK:K.ok)(hs:A3 K A)(hO:Jr w0 (fR K A pk j::(K.F++(Zj++Zd))))(hj:JZ 271 5 K.md (K.f:Int) K.bnd K.kk A.S j Zj)(hz:JV 112 258 5 A.D K.md Zd)(jW:A.sg=true):CE Tryz.prog 190 [.pointer (some ⟨K.ma,0,none⟩)] w0 (fun v w'=>v=.tuple ⟨[]⟩∧A.fK.1=0∧w8 K A.fK.2 pk w0 w' (fR K A pk j::(K.F++(Zj++Zd)))) fun c w'=>(c=ox A.fK.1∧A.fK.1≠0)∧w8 K A.fK.2 pk w0 w' (fR K A pk j::(K.F++(Zj++Zd))):=by
 obtain ⟨IU,tX,yr⟩:=hs.sg jW
 obtain ⟨oa,uZ⟩:∃ x:Nat,(Pl.dG A.S).of=x:=⟨(Pl.dG A.S).of.toNat,Ta⟩
 have O6:=hs.la
 have Z7:(Pl.dG A.S).bs.length≤1000000:=by unfold Pl.dG; split; exact O6; exact LL _
 rw [uZ] at yr
 have kf:A.fK=if (Pl.dB A.D (Pl.dG A.S).of.toNat (Pl.dG A.S).bs).1≠0 then ((Pl.dB A.D (Pl.dG A.S).of.toNat (Pl.dG A.S).bs).1,⟨(Pl.dB A.D (Pl.dG A.S).of.toNat (Pl.dG A.S).bs).2,A.S,A.st,A.nx,A.sg⟩) else (0,⟨(Pl.dB A.D (Pl.dG A.S).of.toNat (Pl.dG A.S).bs).2,A.S,1,A.nx+1,false⟩):=rfl
 rw [uZ,LD] at kf
 refine sw Tryz.func190 rfl rfl rfl fun κ _ Je Jc fq=>?_
 have hm:=hO.start
 refine au 6 ?_
 refine cT rfl rfl rfl (DH K.md K.f K.bnd K.kk A.S j Zj _ (iu (A:=[_]) hm.Jz).left hj Ta) fun v w hR=>?_
 obtain ⟨bU,aB,cQ,cL,rfl,ay,ae⟩:=hR
 replace hm:=hm.Jt ae
 refine au 3 ?_
 refine aT hm fun r w hm=>?_
 refine st hm 0 fun w hm=>?_
 refine au 4 ?_
 refine dw [0,3,6,9,12,15,18,2,22] hm fun w hw ar hh hm=>?_
 refine au 4 ?_
 refine Ja rfl rfl (cy (Jh rfl sc3.h (ar.nd 0 rfl id) rfl) (LM (Value.int .i64) uZ))<|au 3 ?_
 refine Vo rfl rfl rfl go237 (ir A.D K.md Zd K.ma _ oa bU aB (Pl.dG A.S).bs _ (iu (A:=[_,_,_]) hm.Jz).right hz (hm.get (k:=2) rfl) (j6 (A:=[_,_,_]) (k:=2) hm rfl) yr (ay.rd hm 1 rfl) (fun h9 ad h8=>by obtain ⟨h7,h6⟩:=ay.GD h9; rw [h7] at h8; cases h8; exact j6 (A:=[_,_,_]) (k:=1) hm rfl h6) Ta (by have:=hs.cl; omega)) (fun c w hE a eo=>fq c a w eo.defers ?_) fun v w hR=>?_
 ·
  obtain ⟨⟨rfl,dh⟩,z1.h,bZ,ae⟩:=hE
  rw [kf,LI dh]
  exact ⟨⟨rfl,dh⟩,.mk (Int.le_max_left ..) hj bZ (FQ (A:=[_]) (hm.Jp [2] 3 rfl) ae)⟩
 obtain ⟨⟨rfl,dh⟩,z1.h,bZ,ae⟩:=hR
 refine ⟨trivial,?_⟩
 replace hm:=FQ (A:=[_,_,_]) hm ae
 refine au 4 ?_
 refine cT rfl rfl rfl (uY K ⟨(Pl.dB A.D oa (Pl.dG A.S).bs).2,A.S,A.st,A.nx,A.sg⟩ pk j _ (hm.get (k:=2) rfl) (by have h9:=hs.nx; have h8:=hK.mx.2; have h7:=hK.xc; simp only [Pl.JF] at h9; rw [h7] at h8; simp only; omega)) fun v w hR=>?_
 obtain ⟨rfl,ae⟩:=hR
 replace hm:=hm.Qv (N:=[]) 2 rfl ae
 refine au 1 ?_
 refine eK (fin Jc rfl .nil .nil ?_)
 rw [kf,LH (fun h=>h dh)]
 exact ⟨rfl,rfl,.mk (Int.le_max_left ..) hj bZ (hm.Jp [2] 3 rfl)⟩
theorem yM(a:Nat)(bs:Th):∀ (n i:Nat) (D:Pl.Dv),(Pl.cg a bs n i D).2.sz=D.sz∧(Pl.cg a bs n i D).2.cnt=D.cnt
 | 0,i,D=>⟨rfl,rfl⟩
 | n+1,i,D=>by
  have h2:=Pl.mH D (i:Int) (Pl.VK D.sz (Pl.ej D (i:Int)) a bs i)
  unfold Pl.cg
  split
  · exact ⟨rfl,rfl⟩
  · split
    · exact ⟨h2.1,h2.2.1⟩
    · have h1:=yM a bs n (i+1) (Pl.lY D (i:Int) (Pl.VK D.sz (Pl.ej D (i:Int)) a bs i))
      rw [h2.1,h2.2.1] at h1
      exact h1
theorem Ir{D:Pl.Dv}(h:Pl.QS D=0):(Pl.fe D).dn=false∧(Pl.fe D).sz=D.sz∧(Pl.fe D).cnt=D.cnt∧(Pl.fe D).ca=[]:=by
 unfold Pl.QS at h
 unfold Pl.fe
 split at h
 · omega
 · rename_i h1
   rw [LH h1]
   exact ⟨by cases h2:D.dn <;> simp_all [Pl.bm],rfl,rfl,rfl⟩
theorem iv{D:Pl.Dv}{f N:Nat}{b:Int}{S:Pl.Jn}{r:Pl.Rc}(h:(Pl.aP D f N b S r).1=0):(Pl.aP D f N b S r).2.1.dn=false∧(Pl.aP D f N b S r).2.1.sz=D.sz∧(Pl.aP D f N b S r).2.1.cnt=D.cnt∧(Pl.aP D f N b S r).2.1.ca=[]:=by
 unfold Pl.aP at h ⊢
 split at h
 · rename_i h0
   rw [LI h0]
   unfold Pl.qO at h ⊢
   split at h
   · rename_i h1; exact absurd h h1
   · rename_i h1
     rw [LH h1]
     split at h
     · rename_i h2; exact absurd h h2
     · rename_i h2
       rw [LH h2]
       have h3:=Ir (D:=(Pl.nN D f N S r).2) Ta
       have h4:(Pl.nN D f N S r).2.sz=D.sz∧(Pl.nN D f N S r).2.cnt=D.cnt:=yM _ _ _ _ _
       exact ⟨h3.1,h3.2.1.trans h4.1,h3.2.2.1.trans h4.2,h3.2.2.2⟩
 · simp at h
theorem YJ{D E:Pl.Dv}{a b c d:Int}(h:Pl.eF D a b=true)(h1:E.sz=D.sz)(h2:E.cnt=D.cnt)(h3:a≤c)(h4:0≤d)(h5:c+d≤a+b):Pl.eF E c d=true:=by
 have:=Pl.JJ.1 h
 refine Pl.JJ.2 ?_
 rw [h1,h2]
 omega
theorem xa(D:Pl.Dv)(a:Int)(n:Nat):(Pl.bw D a (n:Int)).length≤n:=by
 unfold Pl.bw; split <;> simp only [Lg,LA] <;> omega
theorem fdM{w0 w w':World}{X:Bs}{A Zh Iq R:Tf}{p p':Nat×ag}(h:Mem w0 w X (A++(p::(Zh++R))))(hc:Mem w w' (Mn (ak (p::Zh))) (p'::Iq)):Mem w0 w' X (A++(p'::(Iq++R))):=Mem.mq (Z:=p::Zh) (Z':=p'::Iq) h hc
theorem fdZ{w0 w w':World}{X:Bs}{A Zh Iq R:Tf}{p:Nat×ag}(h:Mem w0 w X (A++(p::(Zh++R))))(hc:Mem w w' (Mn (ak Zh)) Iq):Mem w0 w' X (A++(p::(Iq++R))):=by
 have h1:Mem w0 w X ((A++[p])++(Zh++R)):=by simpa using h
 simpa using Mem.mq h1 hc
theorem O7{w:World}{A Zh R:Tf}{p:Nat×ag}(h:Jr w (A++(p::(Zh++R)))):Jr w (p::Zh):=(Jr.right (A:=A) h).left (A:=p::Zh)
theorem fdR{w:World}{A Zh R:Tf}{p:Nat×ag}(h:Jr w (A++(p::(Zh++R)))):Jr w R:=(Jr.right (A:=A) h).right (A:=p::Zh)
theorem fdX{w0 w:World}{X:Bs}{A Zh R:Tf}{p:Nat×ag}(h:Mem w0 w X (A++(p::(Zh++R)))):Mem w0 w X (A++(p::R)):=
 h.drop (List.Sublist.append_left (List.Sublist.cons_cons _ (List.sublist_append_right _ _)) _)
theorem A4{w:World}{A B:Tf}(h:Jr w (A++B))(k:Nat)(hb:Mn (ak B) k):¬ Mn (ak A) k:=fun ha=>by
 have h1:=h.2
 rw [Qi] at h1
 exact (Kg.1 h1).2.2 _ ha _ hb rfl
theorem O8{w:World}{A Zh F Zj Zd:Tf}{p:Nat×ag}(h:Jr w (A++(p::(Zh++(F++(Zj++Zd)))))):Jr w Zd∧(∀ k,Mn (ak Zd) k→¬ Mn (ak (p::Zh)) k):=by
 have h1:=Jr.right (A:=A) h
 have h2:Jr w ((p::Zh)++(F++(Zj++Zd))):=h1
 have h3:Jr w ((p::Zh)++((F++Zj)++Zd)):=by simpa only [Lp] using h2
 refine ⟨(Jr.right (A:=Zj) (Jr.right (A:=F) (Jr.right (A:=p::Zh) h2))),fun k hk=>A4 h3 k ?_⟩
 show k∈ak (F++Zj++Zd)
 rw [Qi]; exact Ly _ hk
theorem kE{Z:Tf}{p:Nat×ag}{k:Nat}(h:Mn (ak Z) k):Mn (ak (p::Z)) k:=by
 show k∈ak ([p]++Z)
 rw [Qi]; exact Ly _ h
theorem rK{Z:Tf}{n:Nat}{b:ag}(hb:b.real=true:=by rfl):Mn (ak ((n,b)::Z)) n:=JD.2 ⟨b,Lo,hb⟩
theorem O9(K:eH)(A:Pl.Ap)(pk:Int)(j:Nat)(Zj Zd:Tf)(w0:World)(hK:K.ok)(hs:A3 K A)(hO:Jr w0 (fR K A pk j::(K.F++(Zj++Zd))))(hj:JZ 271 5 K.md (K.f:Int) K.bnd K.kk A.S j Zj)(hz:JV 112 258 5 A.D K.md Zd)(jW:A.nx<Pl.JF K.bnd K.cm):CE Tryz.prog 189 [.pointer (some ⟨K.ma,0,none⟩)] w0 (fun v w'=>v=.tuple ⟨[]⟩∧(A.exec K.f K.N K.bnd K.kk K.cm).1=0∧w8 K (A.exec K.f K.N K.bnd K.kk K.cm).2 pk w0 w' (fR K A pk j::(K.F++(Zj++Zd)))) fun c w'=>(c=ox (A.exec K.f K.N K.bnd K.kk K.cm).1∧(A.exec K.f K.N K.bnd K.kk K.cm).1≠0)∧w8 K (A.exec K.f K.N K.bnd K.kk K.cm).2 pk w0 w' (fR K A pk j::(K.F++(Zj++Zd))):=by
 have fB:=hs.nx
 have vB:=Pl.JJ.1 hs.fo
 have Bf:=Pl.JJ.1 hs.fn
 have aq:=hz.ok
 have bM:=hK.on
 have re:=hK.bn
 have fy:=hK.mx
 have bL:=hs.cl
 have hex:0≤A.nx∧A.nx<Pl.first K.bnd (K.xs.map aa.cm) (K.xs.map aa.cm).length:=by rw [hK.xc]; exact ⟨fB.1,jW⟩
 refine sw Tryz.func189 rfl rfl rfl fun κ _ Je Jc fq=>?_
 have hm:=hO.start
 refine au 1 ?_
 refine JS (.pure 0 (.pure 1 (.pure 2 (.pure 3 (.pure 4 (.pure 5 (.pure 6 (.pure 7 (.act2 8 (.pure 9 (.pure 10 (.pure 11 (.act 12 (.cut (.act 13 (.pure 14 .done))))))) 12 (.act 8 (.pure 9 (.pure 10 (.pure 11 (.cut (.act 13 (.pure 14 .done)))))))))))))))) No fP Te hm fun w hw ar hh=>?_
 have hm:=ar
 refine au 8 ?_
 refine QN ?_ ?_
 ·
  refine ca rfl rfl rfl (Hg A.nx K.mp K.bnd K.pf K.cf K.pb K.cb K.pl K.cl K.xs _ (hK.pl _ (Xs (A:=[_]) hm.Jz)).1 (hK.pl _ (Xs (A:=[_]) hm.Jz)).2.1 (hK.pl _ (Xs (A:=[_]) hm.Jz)).2.2.1 (hK.pl _ (Xs (A:=[_]) hm.Jz)).2.2.2.1 hK.fw Ta (hK.pl _ (Xs (A:=[_]) hm.Jz)).2.2.2.2 (by simp only [Pl.aA]; omega) (by simp only [Pl.aA]; omega)) fun v w hR=>?_
  obtain ⟨ix,kx,d,bU,nm,aB,cQ,cL,rfl,ay,ae,cR,_⟩:=hR
  obtain ⟨rfl,Z8,cF⟩:=cR hex
  obtain rfl:=ay.J0
  have hd:Pl.JB K.bnd K.cm A.nx.toNat=d:=by unfold Pl.JB; rw [← hK.xc,cF]; rfl
  have b6:=hK.ck _ (Ld (hK.xc▸cF))
  simp only at b6
  obtain ⟨oa,uZ⟩:∃ x:Nat,d.to=x:=⟨d.to.toNat,Ta⟩
  refine ⟨hh.ext ae.to,?_⟩
  replace hh:=hh.ext ae.to
  replace hm:=hm.Jt ae
  refine au 3 ?_
  refine al hm hh fun t w jb2 hm hh=>?_
  refine au 1 ?_
  refine st hm 0 fun w hm=>?_
  refine au 16 ?_
  refine cA rfl rfl rfl (VI d bU aB _) hm fun w hm=>au 3 ?_
  refine aT hm fun sr w hm=>?_
  refine st hm 0 fun w hm=>?_
  refine au 8 ?_
  refine cd (fun ai=>?_) fun ai=>?_
  ·
   simp only [dT] at ai
   have O':=b6.2.1 ai
   obtain ⟨fa,eo⟩:∃ x:Nat,d.fr=x:=⟨d.fr.toNat,Ta⟩
   obtain ⟨fl,bY⟩:∃ x:Nat,d.ln=x:=⟨d.ln.toNat,Ta⟩
   have hBl:(Pl.bw A.D (fa:Int) (fl:Int)).length≤fl:=xa _ _ _
   have jh:max pk ((Pl.bw A.D (fa:Int) (fl:Int)).length:Int)≤max pk K.bnd:=by omega
   have xb:Pl.eF A.D (oa:Int) ((Pl.bw A.D (fa:Int) (fl:Int)).length:Int)=true:=Pl.JJ.2 Ta
   have hBk:((Pl.bw A.D (fa:Int) (fl:Int)).length:Int)≤K.bnd:=by omega
   have BG:A.lD d=(Pl.bw A.D (fa:Int) (fl:Int)):=by unfold Pl.Ap.lD; rw [LI ai,eo,bY]
   have eI:A.exec K.f K.N K.bnd K.kk K.cm=A.put (Pl.aP A.D K.f K.N K.bnd A.S (Pl.aW A.S K.kk A.nx d.to (Pl.bw A.D (fa:Int) (fl:Int)))) d.to (Pl.bw A.D (fa:Int) (fl:Int)):=by unfold Pl.Ap.exec; rw [hd,BG]
   rw [show ∀ J,A.put J d.to (Pl.bw A.D (fa:Int) (fl:Int))=if J.1≠0 then (J.1,⟨J.2.1,J.2.2,A.st,A.nx,A.sg⟩) else if (Pl.dB J.2.1 d.to.toNat (Pl.bw A.D (fa:Int) (fl:Int))).1≠0 then ((Pl.dB J.2.1 d.to.toNat (Pl.bw A.D (fa:Int) (fl:Int))).1,⟨(Pl.dB J.2.1 d.to.toNat (Pl.bw A.D (fa:Int) (fl:Int))).2,J.2.2,A.st,A.nx,A.sg⟩) else (0,⟨(Pl.dB J.2.1 d.to.toNat (Pl.bw A.D (fa:Int) (fl:Int))).2,J.2.2,1,A.nx+1,false⟩) from fun _=>rfl,uZ,LD,← uZ] at eI
   refine dw [0,3,6,9,2,13,15] hm fun w hw ar hh hm=>?_
   refine au 3 ?_
   refine Ja rfl rfl (cy (Jm (s:=2) (vs:=[_,_]) rfl ag32.h (ar.nd 0 rfl id) rfl) (LM (fun x=>Value.agg ⟨x⟩) (by unfold Pl.br; rw [LI ai,eo,bY]; rfl:Q9 (Pl.br d)=[.int .i64 (fa:Int),.int .i64 (fl:Int)])))<|au 1 ?_
   refine cT rfl rfl rfl (w6 A.D K.md Zd K.ma K.bnd pk _ fa fl _ (iu (A:=[_,_,_,_]) hm.Jz).right hz (hm.get (k:=3) rfl) (j6 (A:=[_,_,_,_]) (k:=3) hm rfl) (Pl.JJ.2 Ta) hs.dn) fun v w hR=>?_
   obtain ⟨nB,cx,ov,ow,rfl,bq,ae⟩:=hR
   replace hm:=hm.Qv (N:=[(ov,ow)]) 3 rfl (ae.pick [1,0] rfl)
   refine au 4 ?_
   refine dw [0,3,6,9,12,15,18,21,24,27,30,33,37,2,40,43] hm fun w hw ar hh hm=>?_
   refine au 12 ?_
   refine Jb (l:=[_]) rfl rfl sl88.h z22.h rfl rfl rfl rfl rfl rfl rfl hm hh fun m5 w fQ hm hh=>au 1 ?_
   refine cT rfl rfl rfl (YM A.D K.md Zd A.S j Zj K.f K.N K.bnd K.kk A.nx d.to _ 1 [⟨nB,cx,(Pl.bw A.D (fa:Int) (fl:Int))⟩] (Pl.bw A.D (fa:Int) (fl:Int)) _ (iu (A:=[_,_,_,_,_,_]) hm.Jz) hz hj (by simp only [Pl.aA]; omega) hs.sl hK.n0 hs.h2 hs.hS hK.k64 (by simp only [Pl.aA]; omega) (by simp only [Pl.aA]; omega) (Rd.JL (hm.get (k:=0) rfl)) (by intro s9 eT; rw [Lf.1 eT]; exact bq.rd hm 1 rfl) Tc Tc Ta Ta) fun v w hR=>?_
   obtain ⟨rfl,Rf,FR,dW,bZ,ae⟩:=hR
   replace hm:=WT (A:=[_,_,_,_,_,_]) hm ae
   refine Vo rfl rfl rfl go235 (YZ _ _) (fun c w hE a eo=>fq c a w eo.defers ?_) fun v w hR=>?_
   ·
    obtain ⟨⟨rfl,dh⟩,hE⟩:=hE
    rw [eI,LI dh]
    exact ⟨⟨rfl,dh⟩,.mk jh dW bZ ((hm.Jp [5] 6 rfl).ext hE)⟩
   obtain ⟨⟨rfl,dh⟩,hE⟩:=hR
   refine ⟨trivial,?_⟩
   replace hm:=hm.ext hE
   have fT:=iv dh
   refine au 3 ?_
   refine dw [0,3,6,9,12,15,18,2,22] hm fun w hw ar hh hm=>?_
   refine au 5 ?_
   refine Ja rfl rfl (cy (Jh rfl sc3.h (ar.nd 3 rfl id) rfl) (LM (Value.int .i64) uZ))<|au 2 ?_
   refine Vo rfl rfl rfl go237 (ir _ K.md FR K.ma _ oa nB cx (Pl.bw A.D (fa:Int) (fl:Int)) _ (iu (A:=[_,_,_,_,_,_]) hm.Jz).right bZ (hm.get (k:=5) rfl) (j6 (A:=[_,_,_,_,_,_]) (k:=5) hm rfl) (YJ xb fT.2.1 fT.2.2.1 (Int.le_refl _) Ta Ta) (bq.rd hm 1 rfl) (fun h9 ad h8=>by obtain ⟨h7,h6⟩:=bq.GD h9; rw [h7] at h8; cases h8; exact j6 (A:=[_,_,_,_,_,_]) (k:=1) hm rfl h6) Ta (by rw [fT.2.2.1,fT.2.2.2]; simp only [LA]; omega)) (fun c w hE a eo=>fq c a w eo.defers ?_) fun v w hR=>?_
   ·
    obtain ⟨⟨rfl,oy⟩,Is,da,ae⟩:=hE
    rw [eI,LH (fun h=>h dh),LI oy]
    exact ⟨⟨rfl,oy⟩,.mk jh dW da (FQ (A:=[_]) (hm.Jp [5] 6 rfl) ae)⟩
   obtain ⟨⟨rfl,oy⟩,Is,da,ae⟩:=hR
   refine ⟨trivial,?_⟩
   replace hm:=FQ (A:=[_,_,_,_,_,_]) hm ae
   refine au 4 ?_
   refine cT rfl rfl rfl (uY K ⟨(Pl.dB (Pl.aP A.D K.f K.N K.bnd A.S (Pl.aW A.S K.kk A.nx d.to (Pl.bw A.D (fa:Int) (fl:Int)))).2.1 oa (Pl.bw A.D (fa:Int) (fl:Int))).2,(Pl.aP A.D K.f K.N K.bnd A.S (Pl.aW A.S K.kk A.nx d.to (Pl.bw A.D (fa:Int) (fl:Int)))).2.2,A.st,A.nx,A.sg⟩ (max pk ((Pl.bw A.D (fa:Int) (fl:Int)).length:Int)) j _ (hm.get (k:=5) rfl) (by simp only; rw [← hK.xc] at fB; simp only [Pl.JF] at fB; omega)) fun v w hR=>?_
   obtain ⟨rfl,ae⟩:=hR
   replace hm:=hm.Qv (N:=[]) 5 rfl ae
   refine au 1 ?_
   refine eK (fin Jc rfl .nil .nil ?_)
   rw [eI,LH (fun h=>h dh),LH (fun h=>h oy)]
   exact ⟨rfl,rfl,.mk jh dW da (hm.Jp [5] 6 rfl)⟩
  ·
   simp only [dF] at ai
   have O':=b6.2.2 ai
   have jh:pk≤max pk K.bnd:=Int.le_max_left ..
   have xb:Pl.eF A.D (oa:Int) (d.bs.length:Int)=true:=Pl.JJ.2 Ta
   have hBk:(d.bs.length:Int)≤K.bnd:=by omega
   have BG:A.lD d=d.bs:=by unfold Pl.Ap.lD; rw [LH ai]
   have eI:A.exec K.f K.N K.bnd K.kk K.cm=A.put (Pl.aP A.D K.f K.N K.bnd A.S (Pl.aW A.S K.kk A.nx d.to d.bs)) d.to d.bs:=by unfold Pl.Ap.exec; rw [hd,BG]
   rw [show ∀ J,A.put J d.to d.bs=if J.1≠0 then (J.1,⟨J.2.1,J.2.2,A.st,A.nx,A.sg⟩) else if (Pl.dB J.2.1 d.to.toNat d.bs).1≠0 then ((Pl.dB J.2.1 d.to.toNat d.bs).1,⟨(Pl.dB J.2.1 d.to.toNat d.bs).2,J.2.2,A.st,A.nx,A.sg⟩) else (0,⟨(Pl.dB J.2.1 d.to.toNat d.bs).2,J.2.2,1,A.nx+1,false⟩) from fun _=>rfl,uZ,LD,← uZ] at eI
   refine au 3 ?_
   refine dw [0,3,6,9,12,15,18,21,24,27,30,33,37,2,40,43] hm fun w hw ar hh hm=>?_
   refine au 12 ?_
   refine Jb (l:=[_]) rfl rfl sl88.h z22.h rfl rfl rfl rfl rfl rfl rfl hm hh fun m5 w fQ hm hh=>au 1 ?_
   refine cT rfl rfl rfl (YM A.D K.md Zd A.S j Zj K.f K.N K.bnd K.kk A.nx d.to _ 1 [⟨bU,aB,d.bs⟩] d.bs _ (iu (A:=[_,_,_,_,_]) hm.Jz) hz hj (by simp only [Pl.aA]; omega) hs.sl hK.n0 hs.h2 hs.hS hK.k64 (by simp only [Pl.aA]; omega) (by simp only [Pl.aA]; omega) (Rd.JL (hm.get (k:=0) rfl)) (by intro s9 eT; rw [Lf.1 eT]; exact ay.rd hm 3 rfl) Tc Tc Ta Ta) fun v w hR=>?_
   obtain ⟨rfl,Rf,FR,dW,bZ,ae⟩:=hR
   replace hm:=WT (A:=[_,_,_,_,_]) hm ae
   refine Vo rfl rfl rfl go235 (YZ _ _) (fun c w hE a eo=>fq c a w eo.defers ?_) fun v w hR=>?_
   ·
    obtain ⟨⟨rfl,dh⟩,hE⟩:=hE
    rw [eI,LI dh]
    exact ⟨⟨rfl,dh⟩,.mk jh dW bZ ((hm.Jp [4] 5 rfl).ext hE)⟩
   obtain ⟨⟨rfl,dh⟩,hE⟩:=hR
   refine ⟨trivial,?_⟩
   replace hm:=hm.ext hE
   have fT:=iv dh
   refine au 3 ?_
   refine dw [0,3,6,9,12,15,18,2,22] hm fun w hw ar hh hm=>?_
   refine au 5 ?_
   refine Ja rfl rfl (cy (Jh rfl sc3.h (ar.nd 2 rfl id) rfl) (LM (Value.int .i64) uZ))<|au 2 ?_
   refine Vo rfl rfl rfl go237 (ir _ K.md FR K.ma _ oa bU aB d.bs _ (iu (A:=[_,_,_,_,_]) hm.Jz).right bZ (hm.get (k:=4) rfl) (j6 (A:=[_,_,_,_,_]) (k:=4) hm rfl) (YJ xb fT.2.1 fT.2.2.1 (Int.le_refl _) Ta Ta) (ay.rd hm 3 rfl) (fun h9 ad h8=>by obtain ⟨h7,h6⟩:=ay.GD h9; rw [h7] at h8; cases h8; exact j6 (A:=[_,_,_,_,_]) (k:=3) hm rfl h6) Ta (by rw [fT.2.2.1,fT.2.2.2]; simp only [LA]; omega)) (fun c w hE a eo=>fq c a w eo.defers ?_) fun v w hR=>?_
   ·
    obtain ⟨⟨rfl,oy⟩,Is,da,ae⟩:=hE
    rw [eI,LH (fun h=>h dh),LI oy]
    exact ⟨⟨rfl,oy⟩,.mk jh dW da (FQ (A:=[_]) (hm.Jp [4] 5 rfl) ae)⟩
   obtain ⟨⟨rfl,oy⟩,Is,da,ae⟩:=hR
   refine ⟨trivial,?_⟩
   replace hm:=FQ (A:=[_,_,_,_,_]) hm ae
   refine au 4 ?_
   refine cT rfl rfl rfl (uY K ⟨(Pl.dB (Pl.aP A.D K.f K.N K.bnd A.S (Pl.aW A.S K.kk A.nx d.to d.bs)).2.1 oa d.bs).2,(Pl.aP A.D K.f K.N K.bnd A.S (Pl.aW A.S K.kk A.nx d.to d.bs)).2.2,A.st,A.nx,A.sg⟩ pk j _ (hm.get (k:=4) rfl) (by simp only; rw [← hK.xc] at fB; simp only [Pl.JF] at fB; omega)) fun v w hR=>?_
   obtain ⟨rfl,ae⟩:=hR
   replace hm:=hm.Qv (N:=[]) 4 rfl ae
   refine au 1 ?_
   refine eK (fin Jc rfl .nil .nil ?_)
   rw [eI,LH (fun h=>h dh),LH (fun h=>h oy)]
   exact ⟨rfl,rfl,.mk jh dW da (hm.Jp [4] 5 rfl)⟩
 ·
  refine al hm hh fun t w jb2 hm hh=>?_
  refine ca rfl rfl rfl (Hg A.nx K.mp K.bnd K.pf K.cf K.pb K.cb K.pl K.cl K.xs _ (hK.pl _ (Xs (A:=[_,_]) hm.Jz)).1 (hK.pl _ (Xs (A:=[_,_]) hm.Jz)).2.1 (hK.pl _ (Xs (A:=[_,_]) hm.Jz)).2.2.1 (hK.pl _ (Xs (A:=[_,_]) hm.Jz)).2.2.2.1 hK.fw Ta (hK.pl _ (Xs (A:=[_,_]) hm.Jz)).2.2.2.2 (by simp only [Pl.aA]; omega) (by simp only [Pl.aA]; omega)) fun v w hR=>?_
  obtain ⟨ix,kx,d,bU,nm,aB,cQ,cL,rfl,ay,ae,cR,_⟩:=hR
  obtain ⟨rfl,Z8,cF⟩:=cR hex
  obtain rfl:=ay.J0
  have hd:Pl.JB K.bnd K.cm A.nx.toNat=d:=by unfold Pl.JB; rw [← hK.xc,cF]; rfl
  have b6:=hK.ck _ (Ld (hK.xc▸cF))
  simp only at b6
  obtain ⟨oa,uZ⟩:∃ x:Nat,d.to=x:=⟨d.to.toNat,Ta⟩
  refine ⟨hh.ext ae.to,?_⟩
  replace hh:=hh.ext ae.to
  replace hm:=hm.Jt ae
  refine au 4 ?_
  refine st hm 1 fun w hm=>?_
  refine au 16 ?_
  refine cA rfl rfl rfl (VI d bU aB _) hm fun w hm=>au 3 ?_
  refine aT hm fun sr w hm=>?_
  refine st hm 0 fun w hm=>?_
  refine au 8 ?_
  refine cd (fun ai=>?_) fun ai=>?_
  ·
   simp only [dT] at ai
   have O':=b6.2.1 ai
   obtain ⟨fa,eo⟩:∃ x:Nat,d.fr=x:=⟨d.fr.toNat,Ta⟩
   obtain ⟨fl,bY⟩:∃ x:Nat,d.ln=x:=⟨d.ln.toNat,Ta⟩
   have hBl:(Pl.bw A.D (fa:Int) (fl:Int)).length≤fl:=xa _ _ _
   have jh:max pk ((Pl.bw A.D (fa:Int) (fl:Int)).length:Int)≤max pk K.bnd:=by omega
   have xb:Pl.eF A.D (oa:Int) ((Pl.bw A.D (fa:Int) (fl:Int)).length:Int)=true:=Pl.JJ.2 Ta
   have hBk:((Pl.bw A.D (fa:Int) (fl:Int)).length:Int)≤K.bnd:=by omega
   have BG:A.lD d=(Pl.bw A.D (fa:Int) (fl:Int)):=by unfold Pl.Ap.lD; rw [LI ai,eo,bY]
   have eI:A.exec K.f K.N K.bnd K.kk K.cm=A.put (Pl.aP A.D K.f K.N K.bnd A.S (Pl.aW A.S K.kk A.nx d.to (Pl.bw A.D (fa:Int) (fl:Int)))) d.to (Pl.bw A.D (fa:Int) (fl:Int)):=by unfold Pl.Ap.exec; rw [hd,BG]
   rw [show ∀ J,A.put J d.to (Pl.bw A.D (fa:Int) (fl:Int))=if J.1≠0 then (J.1,⟨J.2.1,J.2.2,A.st,A.nx,A.sg⟩) else if (Pl.dB J.2.1 d.to.toNat (Pl.bw A.D (fa:Int) (fl:Int))).1≠0 then ((Pl.dB J.2.1 d.to.toNat (Pl.bw A.D (fa:Int) (fl:Int))).1,⟨(Pl.dB J.2.1 d.to.toNat (Pl.bw A.D (fa:Int) (fl:Int))).2,J.2.2,A.st,A.nx,A.sg⟩) else (0,⟨(Pl.dB J.2.1 d.to.toNat (Pl.bw A.D (fa:Int) (fl:Int))).2,J.2.2,1,A.nx+1,false⟩) from fun _=>rfl,uZ,LD,← uZ] at eI
   refine dw [0,3,6,9,2,13,15] hm fun w hw ar hh hm=>?_
   refine au 3 ?_
   refine Ja rfl rfl (cy (Jm (s:=2) (vs:=[_,_]) rfl ag32.h (ar.nd 0 rfl id) rfl) (LM (fun x=>Value.agg ⟨x⟩) (by unfold Pl.br; rw [LI ai,eo,bY]; rfl:Q9 (Pl.br d)=[.int .i64 (fa:Int),.int .i64 (fl:Int)])))<|au 1 ?_
   refine cT rfl rfl rfl (w6 A.D K.md Zd K.ma K.bnd pk _ fa fl _ (iu (A:=[_,_,_,_]) hm.Jz).right hz (hm.get (k:=3) rfl) (j6 (A:=[_,_,_,_]) (k:=3) hm rfl) (Pl.JJ.2 Ta) hs.dn) fun v w hR=>?_
   obtain ⟨nB,cx,ov,ow,rfl,bq,ae⟩:=hR
   replace hm:=hm.Qv (N:=[(ov,ow)]) 3 rfl (ae.pick [1,0] rfl)
   refine au 4 ?_
   refine dw [0,3,6,9,12,15,18,21,24,27,30,33,37,2,40,43] hm fun w hw ar hh hm=>?_
   refine au 12 ?_
   refine Jb (l:=[_]) rfl rfl sl88.h z22.h rfl rfl rfl rfl rfl rfl rfl hm hh fun m5 w fQ hm hh=>au 1 ?_
   refine cT rfl rfl rfl (YM A.D K.md Zd A.S j Zj K.f K.N K.bnd K.kk A.nx d.to _ 1 [⟨nB,cx,(Pl.bw A.D (fa:Int) (fl:Int))⟩] (Pl.bw A.D (fa:Int) (fl:Int)) _ (iu (A:=[_,_,_,_,_,_]) hm.Jz) hz hj (by simp only [Pl.aA]; omega) hs.sl hK.n0 hs.h2 hs.hS hK.k64 (by simp only [Pl.aA]; omega) (by simp only [Pl.aA]; omega) (Rd.JL (hm.get (k:=0) rfl)) (by intro s9 eT; rw [Lf.1 eT]; exact bq.rd hm 1 rfl) Tc Tc Ta Ta) fun v w hR=>?_
   obtain ⟨rfl,Rf,FR,dW,bZ,ae⟩:=hR
   replace hm:=WT (A:=[_,_,_,_,_,_]) hm ae
   refine Vo rfl rfl rfl go235 (YZ _ _) (fun c w hE a eo=>fq c a w eo.defers ?_) fun v w hR=>?_
   ·
    obtain ⟨⟨rfl,dh⟩,hE⟩:=hE
    rw [eI,LI dh]
    exact ⟨⟨rfl,dh⟩,.mk jh dW bZ ((hm.Jp [5] 6 rfl).ext hE)⟩
   obtain ⟨⟨rfl,dh⟩,hE⟩:=hR
   refine ⟨trivial,?_⟩
   replace hm:=hm.ext hE
   have fT:=iv dh
   refine au 3 ?_
   refine dw [0,3,6,9,12,15,18,2,22] hm fun w hw ar hh hm=>?_
   refine au 5 ?_
   refine Ja rfl rfl (cy (Jh rfl sc3.h (ar.nd 4 rfl id) rfl) (LM (Value.int .i64) uZ))<|au 2 ?_
   refine Vo rfl rfl rfl go237 (ir _ K.md FR K.ma _ oa nB cx (Pl.bw A.D (fa:Int) (fl:Int)) _ (iu (A:=[_,_,_,_,_,_]) hm.Jz).right bZ (hm.get (k:=5) rfl) (j6 (A:=[_,_,_,_,_,_]) (k:=5) hm rfl) (YJ xb fT.2.1 fT.2.2.1 (Int.le_refl _) Ta Ta) (bq.rd hm 1 rfl) (fun h9 ad h8=>by obtain ⟨h7,h6⟩:=bq.GD h9; rw [h7] at h8; cases h8; exact j6 (A:=[_,_,_,_,_,_]) (k:=1) hm rfl h6) Ta (by rw [fT.2.2.1,fT.2.2.2]; simp only [LA]; omega)) (fun c w hE a eo=>fq c a w eo.defers ?_) fun v w hR=>?_
   ·
    obtain ⟨⟨rfl,oy⟩,Is,da,ae⟩:=hE
    rw [eI,LH (fun h=>h dh),LI oy]
    exact ⟨⟨rfl,oy⟩,.mk jh dW da (FQ (A:=[_]) (hm.Jp [5] 6 rfl) ae)⟩
   obtain ⟨⟨rfl,oy⟩,Is,da,ae⟩:=hR
   refine ⟨trivial,?_⟩
   replace hm:=FQ (A:=[_,_,_,_,_,_]) hm ae
   refine au 4 ?_
   refine cT rfl rfl rfl (uY K ⟨(Pl.dB (Pl.aP A.D K.f K.N K.bnd A.S (Pl.aW A.S K.kk A.nx d.to (Pl.bw A.D (fa:Int) (fl:Int)))).2.1 oa (Pl.bw A.D (fa:Int) (fl:Int))).2,(Pl.aP A.D K.f K.N K.bnd A.S (Pl.aW A.S K.kk A.nx d.to (Pl.bw A.D (fa:Int) (fl:Int)))).2.2,A.st,A.nx,A.sg⟩ (max pk ((Pl.bw A.D (fa:Int) (fl:Int)).length:Int)) j _ (hm.get (k:=5) rfl) (by simp only; rw [← hK.xc] at fB; simp only [Pl.JF] at fB; omega)) fun v w hR=>?_
   obtain ⟨rfl,ae⟩:=hR
   replace hm:=hm.Qv (N:=[]) 5 rfl ae
   refine au 1 ?_
   refine eK (fin Jc rfl .nil .nil ?_)
   rw [eI,LH (fun h=>h dh),LH (fun h=>h oy)]
   exact ⟨rfl,rfl,.mk jh dW da (hm.Jp [5] 6 rfl)⟩
  ·
   simp only [dF] at ai
   have O':=b6.2.2 ai
   have jh:pk≤max pk K.bnd:=Int.le_max_left ..
   have xb:Pl.eF A.D (oa:Int) (d.bs.length:Int)=true:=Pl.JJ.2 Ta
   have hBk:(d.bs.length:Int)≤K.bnd:=by omega
   have BG:A.lD d=d.bs:=by unfold Pl.Ap.lD; rw [LH ai]
   have eI:A.exec K.f K.N K.bnd K.kk K.cm=A.put (Pl.aP A.D K.f K.N K.bnd A.S (Pl.aW A.S K.kk A.nx d.to d.bs)) d.to d.bs:=by unfold Pl.Ap.exec; rw [hd,BG]
   rw [show ∀ J,A.put J d.to d.bs=if J.1≠0 then (J.1,⟨J.2.1,J.2.2,A.st,A.nx,A.sg⟩) else if (Pl.dB J.2.1 d.to.toNat d.bs).1≠0 then ((Pl.dB J.2.1 d.to.toNat d.bs).1,⟨(Pl.dB J.2.1 d.to.toNat d.bs).2,J.2.2,A.st,A.nx,A.sg⟩) else (0,⟨(Pl.dB J.2.1 d.to.toNat d.bs).2,J.2.2,1,A.nx+1,false⟩) from fun _=>rfl,uZ,LD,← uZ] at eI
   refine au 3 ?_
   refine dw [0,3,6,9,12,15,18,21,24,27,30,33,37,2,40,43] hm fun w hw ar hh hm=>?_
   refine au 12 ?_
   refine Jb (l:=[_]) rfl rfl sl88.h z22.h rfl rfl rfl rfl rfl rfl rfl hm hh fun m5 w fQ hm hh=>au 1 ?_
   refine cT rfl rfl rfl (YM A.D K.md Zd A.S j Zj K.f K.N K.bnd K.kk A.nx d.to _ 1 [⟨bU,aB,d.bs⟩] d.bs _ (iu (A:=[_,_,_,_,_]) hm.Jz) hz hj (by simp only [Pl.aA]; omega) hs.sl hK.n0 hs.h2 hs.hS hK.k64 (by simp only [Pl.aA]; omega) (by simp only [Pl.aA]; omega) (Rd.JL (hm.get (k:=0) rfl)) (by intro s9 eT; rw [Lf.1 eT]; exact ay.rd hm 2 rfl) Tc Tc Ta Ta) fun v w hR=>?_
   obtain ⟨rfl,Rf,FR,dW,bZ,ae⟩:=hR
   replace hm:=WT (A:=[_,_,_,_,_]) hm ae
   refine Vo rfl rfl rfl go235 (YZ _ _) (fun c w hE a eo=>fq c a w eo.defers ?_) fun v w hR=>?_
   ·
    obtain ⟨⟨rfl,dh⟩,hE⟩:=hE
    rw [eI,LI dh]
    exact ⟨⟨rfl,dh⟩,.mk jh dW bZ ((hm.Jp [4] 5 rfl).ext hE)⟩
   obtain ⟨⟨rfl,dh⟩,hE⟩:=hR
   refine ⟨trivial,?_⟩
   replace hm:=hm.ext hE
   have fT:=iv dh
   refine au 3 ?_
   refine dw [0,3,6,9,12,15,18,2,22] hm fun w hw ar hh hm=>?_
   refine au 5 ?_
   refine Ja rfl rfl (cy (Jh rfl sc3.h (ar.nd 3 rfl id) rfl) (LM (Value.int .i64) uZ))<|au 2 ?_
   refine Vo rfl rfl rfl go237 (ir _ K.md FR K.ma _ oa bU aB d.bs _ (iu (A:=[_,_,_,_,_]) hm.Jz).right bZ (hm.get (k:=4) rfl) (j6 (A:=[_,_,_,_,_]) (k:=4) hm rfl) (YJ xb fT.2.1 fT.2.2.1 (Int.le_refl _) Ta Ta) (ay.rd hm 2 rfl) (fun h9 ad h8=>by obtain ⟨h7,h6⟩:=ay.GD h9; rw [h7] at h8; cases h8; exact j6 (A:=[_,_,_,_,_]) (k:=2) hm rfl h6) Ta (by rw [fT.2.2.1,fT.2.2.2]; simp only [LA]; omega)) (fun c w hE a eo=>fq c a w eo.defers ?_) fun v w hR=>?_
   ·
    obtain ⟨⟨rfl,oy⟩,Is,da,ae⟩:=hE
    rw [eI,LH (fun h=>h dh),LI oy]
    exact ⟨⟨rfl,oy⟩,.mk jh dW da (FQ (A:=[_]) (hm.Jp [4] 5 rfl) ae)⟩
   obtain ⟨⟨rfl,oy⟩,Is,da,ae⟩:=hR
   refine ⟨trivial,?_⟩
   replace hm:=FQ (A:=[_,_,_,_,_]) hm ae
   refine au 4 ?_
   refine cT rfl rfl rfl (uY K ⟨(Pl.dB (Pl.aP A.D K.f K.N K.bnd A.S (Pl.aW A.S K.kk A.nx d.to d.bs)).2.1 oa d.bs).2,(Pl.aP A.D K.f K.N K.bnd A.S (Pl.aW A.S K.kk A.nx d.to d.bs)).2.2,A.st,A.nx,A.sg⟩ pk j _ (hm.get (k:=4) rfl) (by simp only; rw [← hK.xc] at fB; simp only [Pl.JF] at fB; omega)) fun v w hR=>?_
   obtain ⟨rfl,ae⟩:=hR
   replace hm:=hm.Qv (N:=[]) 4 rfl ae
   refine au 1 ?_
   refine eK (fin Jc rfl .nil .nil ?_)
   rw [eI,LH (fun h=>h dh),LH (fun h=>h oy)]
   exact ⟨rfl,rfl,.mk jh dW da (hm.Jp [4] 5 rfl)⟩
theorem Pb{D:Pl.Dv}{f:Th}{n a b:Int}(hd:D.dn=false)(h:Pl.bw D 0 n=f)(bM:Pl.eF D 0 n=true)(ha:0≤a)(hb:0≤b)(nY:a+b≤n):Pl.bw D a b=(f.drop a.toNat).take b.toNat:=by
 have h1:=Pl.XB hd bM
 have h2:Pl.eF D a b=true:=YJ bM rfl rfl ha hb Ta
 have h3:=Pl.XB hd h2
 rw [← h]
 unfold Pl.bw
 rw [LI h1,LI h3,List.drop_take,List.take_take]
 congr 1
 omega
theorem dgS{w0 w w':World}{X:Bs}{p q:Nat×ag}{Zh R B:Tf}(h:Mem w0 w X (p::(Zh++R)))(hc:Mem w w' No (q::B)):Mem w0 w' X (q::p::(Zh++(B++R))):=by
 have h1:=h.Jt hc
 refine h1.perm<|List.Perm.cons _<|(List.perm_middle).trans (List.Perm.cons _ ?_)
 exact List.perm_append_comm_assoc _ _ _
theorem A5{w0 w:World}{X:Bs}{A Zh R B:Tf}{p:Nat×ag}{u8:Nat}{s:SB}(hm:Mem w0 w X (A++(p::(Zh++(B++R)))))(h:bh B u8 s)(bO:s.bs.flatMap Jk≠[]):∀ ad,s.p=some ad→¬ Mn (ak Zh) ad.block:=by
 have h1:Mem w0 w X ((A++[p])++(Zh++(B++R))):=by simpa using hm
 exact pP h1 (h.mono fun e he=>Lw _ he) bO
theorem fdB{w:World}{A Zh B F Zj Zd:Tf}{p:Nat×ag}(h:Jr w (A++(p::(Zh++(B++(F++(Zj++Zd))))))):Jr w Zd∧(∀ k,Mn (ak Zd) k→¬ Mn (ak (p::Zh)) k):=by
 have h1:Jr w (A++(p::(Zh++((B++F)++(Zj++Zd))))):=by simpa only [Lp] using h
 exact O8 h1
theorem fdN{w0 w:World}{X:Bs}{A Zh R:Tf}{p:Nat×ag}{n k:Nat}{b:ag}(h:Mem w0 w X (A++(p::(Zh++R))))(hk:aR A k=some (n,b))(hb:b.real=true:=by rfl):¬ Mn (ak Zh) n:=fun h9=>by
 refine Mem.qG (A:=A) (Z:=p::(Zh++R)) h hk hb<|kE ?_
 show n∈ak (Zh++R)
 rw [Qi]; exact Lw _ h9
theorem fdS{w0 w:World}{X:Bs}{q p:Nat×ag}{Zh R B:Tf}(h:Mem w0 w X (q::p::(Zh++(B++R)))):Mem w0 w X (p::(Zh++R)):=
 h.drop (.cons _ (.cons_cons _ (List.Sublist.append_left (List.sublist_append_right _ _) _)))
theorem WU(K:eH)(A:Pl.Ap)(pk:Int)(j:Nat)(Zj Zd:Tf)(w0:World)(hK:K.ok)(hs:A3 K A)(hO:Jr w0 (fR K A pk j::(K.F++(Zj++Zd))))(hj:JZ 271 5 K.md (K.f:Int) K.bnd K.kk A.S j Zj)(hz:JV 112 258 5 A.D K.md Zd)(jW:A.sg=false)(cF:A.st≠2)(fB:A.nx=Pl.JF K.bnd K.cm):CE Tryz.prog 191 [.pointer (some ⟨K.ma,0,none⟩)] w0 (fun v w'=>v=.tuple ⟨[]⟩∧(A.fin K.f K.N K.bnd K.kk K.cm).1=0∧w8 K (A.fin K.f K.N K.bnd K.kk K.cm).2 pk w0 w' (fR K A pk j::(K.F++(Zj++Zd)))) fun c w'=>(c=ox (A.fin K.f K.N K.bnd K.kk K.cm).1∧(A.fin K.f K.N K.bnd K.kk K.cm).1≠0)∧w8 K (A.fin K.f K.N K.bnd K.kk K.cm).2 pk w0 w' (fR K A pk j::(K.F++(Zj++Zd))):=by
 have hnx0:=hs.nx
 have Bf:=Pl.JJ.1 hs.fn
 have bM:=hK.on
 have re:=hK.bn
 have fy:=hK.mx
 have bL:=hs.cl
 have hhh:=hs.hh cF jW fB
 obtain ⟨KZ,NC⟩:∃ x:Nat,K.nn=x:=⟨K.nn.toNat,Ta⟩
 have Bq:K.nw.length≤1000000:=by rw [← hhh,NC]; exact Ki (xa _ _ _) Ta
 have hlen:Pl.first K.bnd (K.xs.map aa.cm) (K.xs.map aa.cm).length=Pl.JF K.bnd K.cm:=by rw [hK.xc]; rfl
 have wR:A.fin K.f K.N K.bnd K.kk K.cm=if (Pl.aP A.D K.f K.N K.bnd A.S (Pl.aW A.S K.kk (Pl.JF K.bnd K.cm) 0 [])).1≠0 then ((Pl.aP A.D K.f K.N K.bnd A.S (Pl.aW A.S K.kk (Pl.JF K.bnd K.cm) 0 [])).1,⟨(Pl.aP A.D K.f K.N K.bnd A.S (Pl.aW A.S K.kk (Pl.JF K.bnd K.cm) 0 [])).2.1,(Pl.aP A.D K.f K.N K.bnd A.S (Pl.aW A.S K.kk (Pl.JF K.bnd K.cm) 0 [])).2.2,A.st,A.nx,A.sg⟩) else (0,⟨(Pl.aP A.D K.f K.N K.bnd A.S (Pl.aW A.S K.kk (Pl.JF K.bnd K.cm) 0 [])).2.1,(Pl.aP A.D K.f K.N K.bnd A.S (Pl.aW A.S K.kk (Pl.JF K.bnd K.cm) 0 [])).2.2,2,A.nx,A.sg⟩):=rfl
 refine sw Tryz.func191 rfl rfl rfl fun κ _ Je Jc fq=>?_
 have hm:=hO.start
 refine au 2 ?_
 refine cT rfl rfl rfl (ue _) fun v w hR=>?_
 obtain ⟨mh,Zh,rfl,uR,ae⟩:=hR
 replace hm:=hm.v8 ae
 refine au 4 ?_
 refine dw [0,3,6,9,12,15,18,21,24,27,2,31] hm fun w hw ar hh hm=>?_
 refine au 8 ?_
 refine Ja rfl rfl (cy (Jh rfl sc3.h (ar.nd 0 rfl id) rfl) (LM (Value.int .i64) NC))<|au 2 ?_
 refine cT rfl rfl rfl (w7 A.D K.md Zd K.ma K.bnd pk _ 0 KZ mh [] Zh _ ((O8 (A:=[])) hm.Jz).1 hz uR Tc (O7 (A:=[]) hm.Jz) (hm.get (k:=0) rfl) (fun h9=>((O8 (A:=[])) hm.Jz).2 _ h9 rK) (YJ hs.fn rfl rfl Ta Ta Ta) hs.dn (fun k9 h9 h8=>((O8 (A:=[])) hm.Jz).2 k9 h9 (kE h8)) Ta) fun v w hR=>?_
 obtain ⟨rfl,FP,Pc,fv,HB,nO,ae⟩:=hR
 replace hm:=fdM (A:=[]) hm ae
 rw [L4,← NC] at fv
 replace fv:VN 126 5 K.nw mh Pc:=hhh▸fv
 refine au 4 ?_
 refine dw [0,6,9,12,15,18,4,21] hm fun w hw ar hh hm=>?_
 refine au 5 ?_
 refine Ja rfl rfl (Jm (s:=32) (vs:=hV (Pl.bu K.nw)) rfl ag23.h (ar.nd 0 rfl id) rfl)<|cB rfl rfl rfl (C.as (v:=.agg ⟨hV (Pl.bu K.nw)⟩) (uf 126 mh K.nw Pc _ (O7 (A:=[]) hm.Jz).tail fv Ta) (by rw [gS (Pl.Qz _)])) hm hh fun w hm hh=>Ja rfl rfl (JA (c:=false) (sG rfl rfl fl23 rfl rfl) (by simp [jq,lB,hV]))<|au 6 ?_
 refine dw [0,3,6,9,12,15,18,21,25,2,28,31] hm fun w hw ar hh hm=>?_
 refine au 1 ?_
 replace hm:=fdX (A:=[]) hm
 refine au 7 ?_
 refine cB rfl rfl rfl (C.as (v:=.int .i64 (Pl.JF K.bnd K.cm)) (ug K.mp K.bnd K.pf K.cf K.pb K.cb K.pl K.cl K.xs _ (hK.pl _ (Xs (A:=[_]) hm.Jz)).1 (hK.pl _ (Xs (A:=[_]) hm.Jz)).2.1 (hK.pl _ (Xs (A:=[_]) hm.Jz)).2.2.1 (hK.pl _ (Xs (A:=[_]) hm.Jz)).2.2.2.1 hK.fw Ta) (by rw [hlen])) hm hh fun w hm hh=>au 1 ?_
 refine cT rfl rfl rfl (YM A.D K.md Zd A.S j Zj K.f K.N K.bnd K.kk (Pl.JF K.bnd K.cm) 0 none 0 [] [] _ (iu (A:=[_]) hm.Jz) hz hj (by simp only [Pl.aA]; omega) hs.sl hK.n0 hs.h2 hs.hS hK.k64 (by simp only [Pl.aA]; omega) (by simp only [Pl.aA]; omega) rfl Tc Tc rfl Tc Ta) fun v w hR=>?_
 obtain ⟨rfl,Rf,FR,dW,bZ,ae⟩:=hR
 replace hm:=WT (A:=[_]) hm ae
 refine Vo rfl rfl rfl go235 (YZ _ _) (fun c w hE a eo=>fq c a w eo.defers ?_) fun v w hR=>?_
 ·
  obtain ⟨⟨rfl,dh⟩,hE⟩:=hE
  rw [wR,LI dh]
  exact ⟨⟨rfl,dh⟩,.mk nO dW bZ ((hm.Jp [0] 1 rfl).ext hE)⟩
 obtain ⟨⟨rfl,dh⟩,hE⟩:=hR
 refine ⟨trivial,?_⟩
 replace hm:=hm.ext hE
 refine au 6 ?_
 refine st hm 0 fun w hm=>?_
 refine au 1 ?_
 refine eK (fin Jc rfl .nil .nil ?_)
 rw [wR,LH (fun h=>h dh)]
 exact ⟨rfl,rfl,.mk nO dW bZ (hm.Jp [0] 1 rfl)⟩
theorem A6(K:eH)(A:Pl.Ap)(pk:Int)(j:Nat)(Zj Zd:Tf)(w0:World)(hK:K.ok)(hs:A3 K A)(hO:Jr w0 (fR K A pk j::(K.F++(Zj++Zd))))(hj:JZ 271 5 K.md (K.f:Int) K.bnd K.kk A.S j Zj)(hz:JV 112 258 5 A.D K.md Zd)(kf:Pl.bw A.D 0 K.oo=K.fl):C Tryz.prog 188 [.pointer (some ⟨K.ma,0,none⟩)] w0 fun v w'=>v=.tuple ⟨[]⟩∧w8 K A pk w0 w' (fR K A pk j::(K.F++(Zj++Zd))):=by
 have vB:=Pl.JJ.1 hs.fo
 have bM:=hK.on
 have re:=hK.bn
 have hv:Pl.VD K.oo K.nn (K.cs.map aa.cm):=hK.vd
 have fF:∀ c∈K.cs,Pl.single K.oo K.nn c.cm=0:=fun c hc=>hv.one c.cm (Ln.2 ⟨c,hc,rfl⟩)
 obtain ⟨oon,hoo⟩:∃ x:Nat,K.oo=x:=⟨K.oo.toNat,Ta⟩
 have Et:=hK.ol
 refine Vk Tryz.func188 rfl rfl rfl fun κ _ Je Jc=>?_
 have hm:=hO.start
 refine au 2 ?_
 refine cT rfl rfl rfl (ue _) fun v w hR=>?_
 obtain ⟨mh,Zh,rfl,uR,ae⟩:=hR
 replace hm:=hm.v8 ae
 refine au 4 ?_
 refine dw [0,3,6,9,12,15,18,21,24,27,2,31] hm fun w hw ar hh hm=>?_
 refine au 8 ?_
 refine Ja rfl rfl (cy (Jh rfl sc3.h (ar.nd 0 rfl id) rfl) (LM (Value.int .i64) hoo))<|au 2 ?_
 refine cT rfl rfl rfl (w7 A.D K.md Zd K.ma K.bnd pk _ 0 oon mh [] Zh _ ((O8 (A:=[])) hm.Jz).1 hz uR Tc (O7 (A:=[]) hm.Jz) (hm.get (k:=0) rfl) (fun h9=>((O8 (A:=[])) hm.Jz).2 _ h9 rK) (YJ hs.fo rfl rfl Ta Ta Ta) hs.dn (fun k9 h9 h8=>((O8 (A:=[])) hm.Jz).2 k9 h9 (kE h8)) Ta) fun v w hR=>?_
 obtain ⟨rfl,FP,Pc,fv,HB,nO,ae⟩:=hR
 replace hm:=fdM (A:=[]) hm ae
 rw [L4,← hoo] at fv
 replace fv:VN 126 5 K.fl mh Pc:=kf▸fv
 refine au 4 ?_
 refine dw [0,6,9,12,15,18,4,21] hm fun w hw ar hh hm=>?_
 refine au 5 ?_
 refine Ja rfl rfl (Jm (s:=32) (vs:=hV (Pl.bu K.fl)) rfl ag23.h (ar.nd 0 rfl id) rfl)<|cB rfl rfl rfl (C.as (v:=.agg ⟨hV (Pl.bu K.fl)⟩) (uf 126 mh K.fl Pc _ (O7 (A:=[]) hm.Jz).tail fv Ta) (by rw [gS (Pl.Qz _)])) hm hh fun w hm hh=>Ja rfl rfl (JA (c:=false) (sG rfl rfl fl23 rfl rfl) (by simp [jq,lB,hV]))<|au 7 ?_
 refine cT rfl rfl rfl (ue _) fun v w hR=>?_
 obtain ⟨mh,Zh,rfl,uR,ae⟩:=hR
 replace hm:=fdX (A:=[]) hm
 clear fv
 replace hm:=hm.v8 ae
 refine au 9 ?_
 refine Ja rfl rfl (Jm (s:=67) (vs:=aZ K.oo K.nn K.H _ _ _) rfl ag26.h (hm.nt 0 rfl) rfl) ?_
 have eM:=hK.dl _ (fdR (A:=[]) hm.Jz).left
 have cM:=DU K.oo K.nn K.H K.q K.cq K.cs _ eM.1 hK.few eM.2 (V5 hv Ta) hv
 refine cT rfl rfl rfl cM fun v w hR=>?_
 obtain ⟨zs,ys,aK,dE,aj,aI,aF,ry,rfl,ah,ew,hhs,dS,j0,ae⟩:=hR
 replace hm:=dgS hm ae
 obtain rfl:=ah.QB Jf Tb
 have wO:zs.Perm (Pl.ids (K.cs.map aa.cm).length):=by rw [Lj]; exact dS
 have rq:Pl.jC (Pl.Zi (K.cs.map aa.cm)) zs 0 (K.cs.map aa.cm).length:=by rw [Lj]; exact j0
 have P2:∀ y∈ys,Pl.single K.oo K.nn y.cm=0:=fun y hy=>by
  have h9:y.cm∈ys.map aa.cm:=Ln.2 ⟨y,hy,rfl⟩
  rw [ew] at h9
  obtain ⟨c,hc,e⟩:=Ln.1 h9
  rw [← e]; exact fF c (ru hc)
 have cI:(((ys).map aa.cm).flatMap (Pl.dt K.fl))=K.nw:=by
  rw [ew,yw,Pl.tP hv Et wO rq]; rfl
 have fz:ys.length≤100:=by
  have h9:=LM List.length ew
  rw [Lj,Lj] at h9
  have h8:=wP (cs:=K.cs) (zs:=zs)
  have h7:=dS.length_eq
  rw [Pl.Qj] at h7
  have h6:=hK.few
  omega
 have N7:K.nw.length≤1000000:=by unfold eH.nw Pl.bQ; rw [Lj,List.length_range]; omega
 have mZ:∀ k,(((ys.take k).map aa.cm).flatMap (Pl.dt K.fl)).length≤1000000:=fun k=>by
  have h9:(((ys).map aa.cm).flatMap (Pl.dt K.fl)).length=(((ys.take k).map aa.cm).flatMap (Pl.dt K.fl)).length+(((ys.drop k).map aa.cm).flatMap (Pl.dt K.fl)).length:=by
   conv=>lhs; rw [← Ke k ys]
   rw [Lx,Lh,Lc]
  rw [cI] at h9
  omega
 refine Ja rfl rfl (QF rfl fv26_4 rfl)<|au 5 ?_
 refine Jg (ι:=Nat×Int×List (Nat×ag)) rfl (ks:=[0,2,34,35]) Tn (fun x=>[(36,.int .i64 (x.1:Int))]) (fun x w=>Mem w0 w (Mn (ak (fR K A pk j::(K.F++(Zj++Zd))))) ((aI,aF)::fR K A x.2.1 j::(x.2.2++(ry++(K.F++(Zj++Zd)))))∧VN 126 5 (((ys.take x.1).map aa.cm).flatMap (Pl.dt K.fl)) mh x.2.2∧x.1≤ys.length∧x.2.1≤max pk K.bnd) (fun x=>ys.length-x.1) (0,FP,Zh) (⟨(hm.Jp [0,1] 2 rfl),uR,LL _,nO⟩) Tm (fun x w hM=>?_)
 obtain ⟨k,pk2,Zh⟩:=x
 obtain ⟨hm,uR,hk,hp3⟩:=hM
 simp only at hm uR hk hp3
 refine au 6 ?_
 refine cd (fun ao=>?_) fun ao=>?_
 ·
  simp only [dT] at ao
  obtain ⟨y,hi⟩:∃ y_,ys[k]?=some y_:=⟨_,La Ta⟩
  have Dy:=Ld hi
  have Fv:=Pl.Jw (P2 y Dy)
  have pM:=hhs y Dy
  have Bj:=Pl.Jl Fv.1
  obtain ⟨U1,qo,rfl⟩:=(ah.rd hm 0 rfl).bS Jf Tb hi
  have HB:=mZ k
  have nO:=mZ (k+1)
  rw [np hi,Lc] at nO
  refine au 7 ?_
  refine Ja rfl rfl (JU rfl ag60.h (ah.rd hm 0 rfl).nt Jf hi)<|aT hm fun c4 w hm=>?_
  refine st hm 0 fun w hm=>?_
  refine au 5 ?_
  refine cA rfl rfl rfl (VI y.cm y.d.p y.d.cap _) hm fun w hm=>au 3 ?_
  refine aT hm fun s5 w hm=>?_
  refine st hm 0 fun w hm=>?_
  refine au 8 ?_
  refine cd (fun aD=>?_) fun aD=>?_
  ·
   simp only [dT] at aD
   have Mw:=Fv.2.1 aD
   obtain ⟨fa,eo⟩:∃ x:Nat,y.cm.fr=x:=⟨y.cm.fr.toNat,Ta⟩
   obtain ⟨fl,bY⟩:∃ x:Nat,y.cm.ln=x:=⟨y.cm.ln.toNat,Ta⟩
   have Be:Pl.bw A.D (fa:Int) (fl:Int)=Pl.dt K.fl y.cm:=by rw [Pb hs.dn kf hs.fo Ta Ta Ta,← eo,← bY]; unfold Pl.dt; rw [LI aD]
   refine dw [0,3,6,9,12,2,16] hm fun w hw ar hh hm=>?_
   refine au 4 ?_
   refine Ja rfl rfl (cy (Jm (s:=2) (vs:=[_,_]) rfl ag32.h (ar.nd 0 rfl id) rfl) (LM (fun x=>Value.agg ⟨x⟩) (by unfold Pl.br; rw [LI aD,eo,bY]; rfl:Q9 (Pl.br y.cm)=[.int .i64 (fa:Int),.int .i64 (fl:Int)])))<|au 1 ?_
   refine cT rfl rfl rfl (w7 A.D K.md Zd K.ma K.bnd pk2 _ fa fl mh (((ys.take k).map aa.cm).flatMap (Pl.dt K.fl)) Zh _ ((fdB (A:=[_,_,_])) hm.Jz).1 hz uR Ta (O7 (A:=[_,_,_]) hm.Jz) (hm.get (k:=3) rfl) (fun h9=>((fdB (A:=[_,_,_])) hm.Jz).2 _ h9 rK) (YJ hs.fo rfl rfl Ta Ta Ta) hs.dn (fun k9 h9 h8=>((fdB (A:=[_,_,_])) hm.Jz).2 k9 h9 (kE h8)) Ta) fun v w hR=>?_
   obtain ⟨rfl,FP,Pc,fv,HB,nO,ae⟩:=hR
   replace hm:=fdM (A:=[_,_,_]) hm ae
   rw [Be] at fv
   refine au 7 ?_
   refine next (k+1,_,_) Td ⟨(hm.Jp [2,3] 4 rfl),by simp only; rw [np hi]; exact fv,Td,Td⟩ ⟨nx k,Tm⟩
  ·
   simp only [dF] at aD
   have Be:Pl.dt K.fl y.cm=y.d.bs:=by unfold Pl.dt; rw [LH aD]; rfl
   refine au 4 ?_
   refine Jb (l:=[_]) rfl rfl sl88.h z22.h rfl rfl rfl rfl rfl rfl rfl hm trivial fun m7 w Dz hm hh=>cT rfl rfl rfl (kr _ 1 [⟨y.d.p,y.d.cap,y.d.bs⟩] 126 mh (((ys.take k).map aa.cm).flatMap (Pl.dt K.fl)) Zh _ (O7 (A:=[_,_,_,_]) hm.Jz).tail uR Ta (Rd.JL (hm.get (k:=0) rfl)) (by intro s9 eT; rw [Lf.1 eT]; exact pM.rd hm (by intro e he; exact Ly [_,_,_,_] (.tail _ (Ly _ (Lw _ he))))) (fun _ ad h=>by cases h; exact fdN (A:=[_,_,_,_]) (k:=0) hm rfl) (by intro s9 eT; rw [Lf.1 eT]; exact A5 (A:=[_,_,_,_]) hm pM) Tc (by simp only [Lk,LY,Lq]; rw [← Be]; omega)) fun v w hR=>?_
   obtain ⟨rfl,Pc,fv,ae⟩:=hR
   replace hm:=fdZ (A:=[_,_,_,_]) hm ae
   simp only [Lk,LY,Lq] at fv
   rw [← Be] at fv
   refine au 7 ?_
   refine next (k+1,_,_) Td ⟨(hm.Jp [3,4] 5 rfl),by simp only; rw [np hi]; exact fv,Td,Td⟩ ⟨nx k,Tm⟩
 ·
  simp only [dF] at ao
  have b8:k=ys.length:=by omega
  rw [b8,Lv,cI] at uR
  refine au 6 ?_
  refine dw [0,6,9,12,15,18,4,21] hm fun w hw ar hh hm=>?_
  refine au 5 ?_
  refine Ja rfl rfl (Jm (s:=32) (vs:=hV (Pl.bu K.nw)) rfl ag23.h (ar.nd 1 rfl id) rfl)<|cB rfl rfl rfl (C.as (v:=.agg ⟨hV (Pl.bu K.nw)⟩) (uf 126 mh K.nw Zh _ (O7 (A:=[_]) hm.Jz).tail uR Ta) (by rw [gS (Pl.Qz _)])) hm hh fun w hm hh=>Ja rfl rfl (JA (c:=false) (sG rfl rfl fl23 rfl rfl) (by simp [jq,lB,hV]))<|au 4 ?_
  refine eK (fin Jc rfl .nil .nil ?_)
  exact ⟨rfl,.mk hp3 hj hz (fdX (A:=[]) (fdS (hm.Jp [0,1] 2 rfl)))⟩
theorem Pd(m:Nat)(w0:World):CallsD Tryz.prog 232 ⟨[.pointer (some ⟨m,0,none⟩)]⟩ .returning w0 fun e u' w'=>u'=oc .returning∧Rt (fun v w'=>v=.tuple ⟨[]⟩∧Ext No w0 w') e w':=by
 refine CS (t:=4) Tryz.func232 rfl rfl rfl rfl rfl rfl fun κ _ Je Jc=>?_
 have hm:=Mem.start w0
 refine au 3 ?_
 refine Ja rfl rfl (JA (c:=true) (CX rfl rfl Te rfl) rfl)<|au 7 ?_
 refine eK (fin Jc rfl .nil .nil ?_)
 exact ⟨rfl,hm.to⟩
theorem Pe(m:Nat)(e:Int)(x:Value)(w0:World)(hr:w0.heap[m]?=some (ag.row 35 [x]).Jd):CallsD Tryz.prog 232 ⟨[.pointer (some ⟨m,0,none⟩)]⟩ (.panicking (ox e)) w0 fun e' u' w'=>u'=oc (.panicking (ox e))∧Rt (fun v w'=>v=.tuple ⟨[]⟩∧Mem w0 w' (fun k=>k=m) [(m,.row 35 [.int .i64 e])]) e' w':=by
 refine CS (t:=4) Tryz.func232 rfl rfl rfl rfl rfl rfl fun κ _ Je Jc=>?_
 have hm:=Mem.Vq hr
 refine au 3 ?_
 refine Ja rfl rfl (JA (c:=false) (CX rfl rfl Te rfl) rfl)<|au 5 ?_
 refine Ja rfl rfl (CY rfl un35 rfl)<|au 12 ?_
 refine st hm 0 fun w hm=>?_
 refine au 2 ?_
 refine eK (fin Jc rfl .nil .nil ?_)
 exact ⟨rfl,hm⟩
theorem yN(g:FuncId)(vs:Ti)(P0:Int→Tf→Prop)(Z:Tf)(w0:World)(hZ:Jr w0 Z)(hg:JH Tryz.prog g=true)(h:∀ w,Jr w Z→CE Tryz.prog g vs w (fun v w'=>v=.tuple ⟨[]⟩∧∃ Z',P0 0 Z'∧Mem w w' (Mn (ak Z)) Z') (fun c w'=>∃ e,c=ox e∧∃ Z',P0 e Z'∧Mem w w' (Mn (ak Z)) Z')):C Tryz.prog 187 [.func (.func g) ⟨vs⟩ ⟨[]⟩] w0 fun v w'=>∃ e Z',v=.int .i64 e∧P0 e Z'∧Mem w0 w' (Mn (ak Z)) Z':=by
 refine CE.c (E:=fun _ _=>False) (I9 Tryz.func187 rfl rfl rfl ?_) (fun _ _ h=>h)
 have hm:=hZ.start
 refine au 2 ?_
 refine aT hm fun mt w hm=>?_
 refine au 3 ?_
 refine tK (.pure 0 (.act 1 .done)) Te<|au 1 ?_
 refine x7 rfl rfl rfl trivial<|au 5 ?_
 refine CV rfl rfl rfl rfl hg (by simpa using h _ hm.Jz.tail) (fun c w hE a eo=>?_) fun v w hR=>?_
 · obtain ⟨e,rfl,Z',hp,ae⟩:=hE
   have fb:=Mem.JQ (A:=[_]) hm ae
   show Leaves _ _ _ _ a.defers _ _
   rw [eo.defers]
   refine wF Tc (Pe mt e _ w (fb.get (k:=0) rfl)) go232 rfl fun v w' hv=>?_
   obtain ⟨rfl,u0⟩:=hv
   have vq:=fb.Qv (N:=[]) 0 rfl u0
   refine qV (fn:=Tryz.f187) (R:=fun v w'=>∃ e Z',v=.int .i64 e∧P0 e Z'∧Mem w0 w' (Mn (ak Z)) Z') (v:=.int .i64 e) rfl (.cell rfl (JN sc35.h (vq.get (k:=0) rfl) rfl) .nil) .one ?_ eo
   exact ⟨e,Z',rfl,hp,vq.tail⟩
 obtain ⟨rfl,Z',hp,ae⟩:=hR
 refine ⟨trivial,?_⟩
 replace hm:=Mem.JQ (A:=[_]) hm ae
 refine au 4 ?_
 refine st hm 0 fun w hm=>?_
 refine au 3 ?_
 refine dD fun a eo=>?_
 show Leaves _ _ _ _ a.defers _ _
 rw [eo.defers]
 refine wF Tc (Pd mt w) go232 rfl fun v w' hv=>?_
 obtain ⟨rfl,hE⟩:=hv
 have vq:=hm.ext hE
 refine qV (fn:=Tryz.f187) (R:=fun v w'=>∃ e Z',v=.int .i64 e∧P0 e Z'∧Mem w0 w' (Mn (ak Z)) Z') (v:=.int .i64 0) rfl (.cell rfl (JN sc35.h (vq.get (k:=0) rfl) rfl) .nil) .one ?_ eo
 exact ⟨0,Z',rfl,hp,vq.tail⟩
end Go.Proofs.YtaehgpeenaomcaaGreat
