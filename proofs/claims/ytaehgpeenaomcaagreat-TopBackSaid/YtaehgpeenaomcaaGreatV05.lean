/- Part 6 of the proof of TopBack: Lay Dev Wire Chk. Conditions: the hypotheses of each theorem. -/
import Derived.Test.YtaehgpeenaomcaaGreatV04
import Derived.Test.YtaehgpeenaomcaaGreatChecked
set_option maxRecDepth 10000
set_option maxHeartbeats 4000000
set_option linter.unusedVariables false
set_option linter.unusedSimpArgs false
namespace Go.Proofs.YtaehgpeenaomcaaGreat
open Go Go.Cx
theorem tV(b:Int)(w0:World)(hb:Pl.aA b):C Tryz.prog 37 [.int .i64 b] w0 fun v w'=>v=.int .i64 (Pl.ba b)∧Ext No w0 w':=by
 refine aH Tryz.func37 fun κ _ Je Jc hm=>?_
 refine au 16 ?_
 refine cd (fun ai=>?_) fun ai=>?_
 ·
  simp only [bA,bB,bC,bD,bE,bF,dT,dF] at ai
  refine au 8 ?_
  exact ⟨by unfold Pl.ba; rw [LI Ta],hm.to⟩
 ·
  simp only [bA,bB,bC,bD,bE,bF,dT,dF] at ai
  refine au 12 ?_
  exact ⟨by unfold Pl.ba; rw [LH Ta],hm.to⟩
theorem Db(s b:Int)(w0:World)(hs:Pl.aA s)(hb:Pl.aA b):C Tryz.prog 18 [.int .i64 s,.int .i64 b] w0 fun v w'=>v=.int .i64 (Pl.slot s b)∧Ext No w0 w':=by
 refine aH Tryz.func18 fun κ _ Je Jc hm=>?_
 refine au 20 ?_
 refine cd (fun ai=>?_) fun ai=>?_
 ·
  simp only [bA,bB,bC,bD,bE,bF,dT,dF] at ai
  refine au 8 ?_
  exact ⟨by unfold Pl.slot; rw [LI Ta],hm.to⟩
 ·
  simp only [bA,bB,bC,bD,bE,bF,dT,dF] at ai
  refine au 5 ?_
  refine cA rfl rfl rfl (C.as (tV _ _ Ta) (by rw [Pl.ba,LH Ta])) hm fun w hm=>Ja rfl rfl (QR rfl rfl ((Ql Ta Ta).trans (by omega:40+b+4-1=b+43)))<|au 1 ?_
  refine Ja rfl rfl (Yy rfl rfl Ta (oS Ta Ta Ta))<|Ja rfl rfl (J5 rfl rfl (Ql (by have:=Pl.Xg (x:=b+43) (s:=s) Ta Ta; omega) (by have:=Pl.Xg (x:=b+43) (s:=s) Ta Ta; omega)))<|au 5 ?_
  exact ⟨by unfold Pl.slot; rw [LH Ta],hm.to⟩
theorem Dd(s a b:Int)(w0:World)(hs:Pl.aA s)(ha:Pl.aA a)(hb:Pl.aA b):C Tryz.prog 35 [.int .i64 s,.agg #[.int .i64 a,.int .i64 b]] w0 fun v w'=>v=.agg ⟨Q9 (Pl.lJ s a b)⟩∧Ext No w0 w':=by
 refine aH Tryz.func35 fun κ _ Je Jc hm=>?_
 refine au 2 ?_
 refine bT hm fun m1 w hm=>?_
 refine aT hm fun m2 w hm=>?_
 refine au 9 ?_
 refine J1 rfl rfl rfl (fun hc=>(J8 (gx hc rfl) QL)) go34 (fun hc=>(Qw _ _ _ Ta Ta)) trivial fun w hE hh=>?_
 replace hm:=hm.ext hE
 refine au 9 ?_
 refine cd (fun ai=>?_) fun ai=>?_
 ·
  simp only [bB,bE,dT] at ai
  refine au 3 ?_
  refine st hm 0 fun w hm=>?_
  refine au 5 ?_
  exact ⟨by unfold Pl.lJ; rw [LI (by rcases ai with (h | h) | h; exact .inl h; exact .inr (.inl h); exact .inr (.inr h))]; rfl,hm.to⟩
 ·
  simp only [bD,bF,dF] at ai
  have hv:=Pl.gC ai.1.2
  have h3:=Pl.Xg (x:=a) (s:=s) Ta Ta
  have h4:=Pl.Xg (x:=a+b-1) (s:=s) Ta Ta
  have h5:=Pl.sO (x:=a) (y:=a+b-1) (s:=s) Ta Ta
  refine au 3 ?_
  refine dw [0,3,6,9,12,21,16,18,24,27,30] hm fun w hw ar hh hm=>?_
  refine au 3 ?_
  refine Ja rfl rfl (Yy rfl rfl Ta (oS Ta Ta Ta))<|au 2 ?_
  refine cB rfl rfl rfl (QC _ _ _ Ta) hm hh fun w hm hh=>au 1 ?_
  refine Ja rfl rfl (Yy rfl rfl Ta (oS Ta Ta Ta))<|au 12 ?_
  refine st hm 0 fun w hm=>?_
  refine au 4 ?_
  exact ⟨by unfold Pl.lJ; rw [LH (by rw [ai.1.2]; simp; omega)]; rfl,hm.to⟩
theorem Uf(s b o n:Int)(w0:World)(hs:Pl.aA s)(hb:Pl.aA b)(ho:Pl.aA o)(hn:Pl.aA n):C Tryz.prog 17 [.int .i64 s,.int .i64 b,.int .i64 o,.int .i64 n] w0 fun v w'=>v=.tuple ⟨[.agg ⟨qy s b o n⟩,.int .i64 (Pl.X7 s b o n)]⟩∧Ext No w0 w':=by
 refine aH Tryz.func17 fun κ _ Je Jc hm=>?_
 refine au 2 ?_
 refine aT hm fun m1 w hm=>?_
 refine au 7 ?_
 refine cA rfl rfl rfl (Db _ _ _ Ta Ta) hm fun w hm=>au 10 ?_
 refine cd (fun ai=>?_) fun ai=>?_
 ·
  simp only [bA,bB,bC,bD,bE,bF,dT,dF] at ai
  refine au 3 ?_
  refine st hm 0 fun w hm=>?_
  refine au 6 ?_
  have e:Pl.X7 s b o n=20:=by unfold Pl.X7; rw [LI (ai)]
  exact ⟨by unfold qy; rw [e]; rfl,hm.to⟩
 ·
  simp only [dF] at ai
  have jn:=Pl.lI s b
  refine au 7 ?_
  refine cA rfl rfl rfl (Qw _ _ _ Ta Ta) hm fun w hm=>au 3 ?_
  refine JK rfl rfl rfl (fun hc=>(Qe (cs:=[_,_]) z32.h ft32.h rfl rfl (J8 (gx hc rfl) QL) rfl rfl))<|J1 rfl rfl rfl (fun hc=>(J8 (gx hc rfl) QL)) go34 (fun hc=>(Qw _ _ _ Ta Ta)) trivial fun w hE hh=>?_
  replace hm:=hm.ext hE
  refine au 4 ?_
  refine cd (fun ao=>?_) fun ao=>?_
  ·
   simp only [bB,bE] at ao
   have wK:Pl.gD o=false∨Pl.gD n=false:=ao
   refine au 3 ?_
   refine st hm 0 fun w hm=>?_
   refine au 6 ?_
   have e:Pl.X7 s b o n=2:=by unfold Pl.X7; rw [LH Ta,LI wK]
   exact ⟨by unfold qy; rw [e]; rfl,hm.to⟩
  ·
   simp only [bD,bF] at ao
   have jH:Pl.gD o=true∧Pl.gD n=true:=ao
   have ho1:=Pl.VU.1 ao.1
   have sK:=Pl.VU.1 ao.2
   have I8:=Pl.B6 s 0 (max o n)
   refine au 11 ?_
   refine aT hm fun m2 w hm=>?_
   refine st hm 0 fun w hm=>?_
   refine au 7 ?_
   refine cA rfl rfl rfl (Dd _ _ _ _ Ta Ta Ta) hm fun w hm=>Ja rfl rfl (QF rfl fv32_1 rfl)<|au 4 ?_
   refine st hm 0 fun w hm=>?_
   refine au 6 ?_
   refine cA rfl rfl rfl (QC _ _ _ Ta) hm fun w hm=>au 1 ?_
   refine st hm 0 fun w hm=>?_
   refine Qc<|QV<|Qb rfl<|JT (.pure 0 (.act 1 (.pure 2 .done))) Te<|Ja rfl rfl (Jm (s:=7) (vs:=[_,_,_,_,_,_,_]) rfl ag34.h (hm.nt 0 rfl) rfl)<|st hm 1 fun w hm=>?_
   refine au 5 ?_
   have e:Pl.X7 s b o n=0:=by unfold Pl.X7; rw [LH Ta,LH (by simp [jH])]
   exact ⟨by unfold qy Pl.qv; rw [e]; rfl,hm.to⟩
theorem G3(s b o n:Int)(rest:Ti)(w0:World)(hs:Pl.aA s)(hb:Pl.aA b)(ho:Pl.aA o)(hn:Pl.aA n):C Tryz.prog 8 [.int .i64 s,.int .i64 b,.agg ⟨.int .i64 o::.int .i64 n::rest⟩] w0 fun v w'=>v=.tuple ⟨[.agg ⟨qy s b o n⟩,.int .i64 (Pl.X7 s b o n)]⟩∧Ext No w0 w':=by
 refine aH Tryz.func8 fun κ _ Je Jc hm=>?_
 refine au 2 ?_
 refine bT hm fun m1 w hm=>?_
 refine aT hm fun m2 w hm=>?_
 refine au 11 ?_
 refine cA rfl rfl rfl (Uf _ _ _ _ _ Ta Ta Ta Ta) hm fun w hm=>au 2 ?_
 refine st hm 0 fun w hm=>?_
 refine au 5 ?_
 exact ⟨rfl,hm.to⟩
theorem De(p:Tg)(cap:Nat)(xs:Tj)(fi:FuncId)(l2:Ti)(pred:Int→Bool)(w0:World)(hx:Rd w0 p (xs.flatMap encI))(hlen:xs.length≤9223372036854775807)(hg:JH Tryz.prog fi=true)(hf:∀ x w1,x∈xs→Ext No w0 w1→C Tryz.prog fi (.int .i64 x::l2) w1 fun v w2=>v=.bool (pred x)∧Ext No w1 w2):C Tryz.prog 245 [.slice p xs.length cap,.func (.func fi) #[] ⟨l2⟩] w0 fun v w'=>v=.int .i64 (Pl.idx pred xs)∧Ext No w0 w':=by
 refine aH Tryz.func245 fun κ _ Je Jc hm=>?_
 refine au 14 ?_
 refine Jg (ι:=Nat) rfl (ks:=[0,1,7]) Tn (fun k=>[(8,.int .i64 k)]) (fun k w=>Mem w0 w No []∧k≤xs.length∧∀ (j:Nat) y,j<k→xs[j]?=some y→pred y=false) (fun k=>xs.length-k) 0 (⟨hm,LL _,fun _ _ h=>absurd h (Nat.not_lt_zero _)⟩) Tm (fun k w hM=>?_)
 obtain ⟨hm,hk,cz⟩:=hM
 refine au 6 ?_
 refine cd (fun ai=>?_) fun ai=>?_
 ·
  simp only [dT] at ai
  obtain ⟨x,hi⟩:∃ y_,xs[k]?=some y_:=⟨_,La Ta⟩
  obtain ⟨qb,qo,rfl⟩:=hx.bS Jq Tb hi
  refine au 16 ?_
  refine Ja rfl rfl (J3 rfl sc3.h (hx.Jj hm.to).nt Jq hi rfl)<|Qf rfl rfl rfl rfl hg (hf x _ (Ld hi) hm.to) fun v w hR=>?_
  obtain ⟨rfl,hE⟩:=hR
  refine ⟨trivial,?_⟩
  replace hm:=hm.ext hE
  refine au 2 ?_
  refine cd (fun ao=>?_) fun ao=>?_
  ·
   refine au 13 ?_
   exact ⟨by rw [Pl.X8 hi ao cz],hm.to⟩
  ·
   refine au 7 ?_
   refine next (k+1) Ta ⟨hm,Ta,fun j y hj hy=>?_⟩ ⟨nx k,Tm⟩
   rcases L7 j k with h | h
   · exact cz j y h hy
   · obtain rfl:j=k:=by omega
     rw [hi] at hy; cases hy; exact ao
 ·
  have hk:k=xs.length:=by simp at ai; omega
  subst hk
  refine au 12 ?_
  exact ⟨by rw [Pl.YN cz],hm.to⟩
theorem yb(D:Pl.Dv)(m:Nat)(pb:Tg)(cb gb:Nat)(bb:ag)(pc:Tg)(cc gc:Nat)(bc:ag)(gm:Nat)(es:List (Int×Int×Nat))(ck:Nat)(cs:List PdV)(B:Tf)(w0:World)(hZ:Jr w0 ((m,.row 112 (dI D pb cb pc cc gm))::(gb,bb)::(gc,bc)::(gm,ep es ck)::B))(hz:mu 112 258 5 D m pb cb gb bb pc cc gc bc gm es cs B):C Tryz.prog 105 [.pointer (some ⟨m,0,none⟩)] w0 fun v w'=>v=.int .i64 (D.cnt:Int)∧Ext No w0 w':=by
 have hP:w0.heap[m]?=some (ag.row 112 (dI D pb cb pc cc gm)).Jd:=hZ.get (k:=0) rfl
 have aq:=hz.ok
 have o1:=aq.sz
 have o2:=aq.len
 have o3:=aq.cnt
 have o4:=aq.max
 have o5:D.cnt≤D.cnt*D.sz:=Lu _ o1
 have o6:=hz.ab.le
 have o7:D.sz≤D.cnt*D.sz:=L1 _ o3
 refine aH Tryz.func105 fun κ _ Je Jc hm=>?_
 refine au 6 ?_
 refine dw [0,3,6,9,12,15,18,21,24,27,30] hm fun w hw ar hh hm=>?_
 refine au 9 ?_
 refine Ja rfl rfl (Yy rfl rfl Ta (Gr aq))<|au 5 ?_
 exact ⟨rfl,hm.to⟩
theorem tW(D:Pl.Dv)(m:Nat)(pb:Tg)(cb:Nat)(pc:Tg)(nc cc gm n9:Nat)(w0:World)(hP:w0.heap[m]?=some (ag.row 112 [.int .i64 (D.sz:Int),.slice pb n9 cb,.int .i64 D.wr,.int .u64 D.kp,.int .i64 D.sW,.int .i64 D.sF,.int .i64 D.sC,.int .i64 D.sH,.int .i64 D.sM,.slice pc nc cc,.map (some gm),.bool D.dn]).Jd)(o4:D.cnt*D.sz≤1048576)(o6:D.cnt*D.sz≤cb)(cU:cb≠0→∀ ad,pb=some ad→ad.spot=none)(o1:1≤D.sz)(i:Nat)(hi:i<D.cnt):C Tryz.prog 170 [.pointer (some ⟨m,0,none⟩),.int .i64 ((i:Nat):Int)] w0 fun v w'=>v=.slice (bP pb cb (i*D.sz) 1) D.sz (cb-i*D.sz)∧Ext No w0 w':=by
 have o5:D.cnt≤D.cnt*D.sz:=Lu _ o1
 have hs:=Pl.V9 (sz:=D.sz) hi
 have tX:(i+1)*D.sz=i*D.sz+D.sz:=by rw [Kh,Nat.one_mul]
 refine aH Tryz.func170 fun κ _ Je Jc hm=>?_
 refine au 6 ?_
 refine dw [0,3,6,9,12,15,18,21,24,27,30,33,36,39,42,45,48,51,54] hm fun w hw ar hh hm=>?_
 refine au 9 ?_
 refine Ja rfl rfl (Vy rfl rfl (n4 Ta))<|au 1 ?_
 refine Ja rfl rfl (J5 rfl rfl (jap Ta))<|au 4 ?_
 refine Ja rfl rfl (Vy rfl rfl (n4 Ta))<|Ja rfl rfl (cy (JE (ln:=(i*D.sz)) (hn:=((i+1)*D.sz)) rfl sl22.h ⟨_,rfl⟩ ⟨_,rfl⟩ Ta Ta (fun h=>cU Ta)) (show _=Value.slice (bP pb cb (i*D.sz) 1) D.sz (cb-i*D.sz) by rw [tX,Kk]))<|au 5 ?_
 exact ⟨rfl,hm.to⟩
theorem Ni(D:Pl.Dv)(m:Nat)(pb:Tg)(cb gb:Nat)(bb:ag)(pc:Tg)(cc gc:Nat)(bc:ag)(gm:Nat)(es:List (Int×Int×Nat))(ck:Nat)(cs:List PdV)(B:Tf)(w0:World)(hZ:Jr w0 ((m,.row 112 (dI D pb cb pc cc gm))::(gb,bb)::(gc,bc)::(gm,ep es ck)::B))(hz:mu 112 258 5 D m pb cb gb bb pc cc gc bc gm es cs B):C Tryz.prog 73 [.pointer (some ⟨m,0,none⟩)] w0 fun v w'=>v=.int .i64 (D.sz:Int)∧Ext No w0 w':=by
 have hP:w0.heap[m]?=some (ag.row 112 (dI D pb cb pc cc gm)).Jd:=hZ.get (k:=0) rfl
 have aq:=hz.ok
 have o1:=aq.sz
 have o2:=aq.len
 have o3:=aq.cnt
 have o4:=aq.max
 have o5:D.cnt≤D.cnt*D.sz:=Lu _ o1
 have o6:=hz.ab.le
 have o7:D.sz≤D.cnt*D.sz:=L1 _ o3
 refine aH Tryz.func73 fun κ _ Je Jc hm=>?_
 refine au 27 ?_
 exact ⟨rfl,hm.to⟩
theorem Aa(D:Pl.Dv)(m:Nat)(pb:Tg)(cb gb:Nat)(bb:ag)(pc:Tg)(cc gc:Nat)(bc:ag)(gm:Nat)(es:List (Int×Int×Nat))(ck:Nat)(cs:List PdV)(B:Tf)(w0:World)(hZ:Jr w0 ((m,.row 112 (dI D pb cb pc cc gm))::(gb,bb)::(gc,bc)::(gm,ep es ck)::B))(hz:mu 112 258 5 D m pb cb gb bb pc cc gc bc gm es cs B):C Tryz.prog 74 [.pointer (some ⟨m,0,none⟩)] w0 fun v w'=>v=.int .i64 (D.cnt:Int)∧Ext No w0 w':=by
 have hP:w0.heap[m]?=some (ag.row 112 (dI D pb cb pc cc gm)).Jd:=hZ.get (k:=0) rfl
 have aq:=hz.ok
 have o1:=aq.sz
 have o2:=aq.len
 have o3:=aq.cnt
 have o4:=aq.max
 have o5:D.cnt≤D.cnt*D.sz:=Lu _ o1
 have o6:=hz.ab.le
 have o7:D.sz≤D.cnt*D.sz:=L1 _ o3
 refine aH Tryz.func74 fun κ _ Je Jc hm=>?_
 refine au 20 ?_
 refine cA rfl rfl rfl (yb D m pb cb gb bb pc cc gc bc gm es ck cs B _ (hZ.ext hm.to) hz) hm fun w hm=>au 5 ?_
 exact ⟨rfl,hm.to⟩
theorem q7(D:Pl.Dv)(m:Nat)(pb:Tg)(cb gb:Nat)(bb:ag)(pc:Tg)(cc gc:Nat)(bc:ag)(gm:Nat)(es:List (Int×Int×Nat))(ck:Nat)(cs:List PdV)(B:Tf)(w0:World)(hZ:Jr w0 ((m,.row 112 (dI D pb cb pc cc gm))::(gb,bb)::(gc,bc)::(gm,ep es ck)::B))(hz:mu 112 258 5 D m pb cb gb bb pc cc gc bc gm es cs B)(i:Int):C Tryz.prog 254 [.pointer (some ⟨m,0,none⟩),.int .i64 i] w0 fun v w'=>v=.int .i64 (Pl.JI D i)∧Ext No w0 w':=by
 have hP:w0.heap[m]?=some (ag.row 112 (dI D pb cb pc cc gm)).Jd:=hZ.get (k:=0) rfl
 have aq:=hz.ok
 have o1:=aq.sz
 have o2:=aq.len
 have o3:=aq.cnt
 have o4:=aq.max
 have o5:D.cnt≤D.cnt*D.sz:=Lu _ o1
 have o6:=hz.ab.le
 have o7:D.sz≤D.cnt*D.sz:=L1 _ o3
 have fC:Pl.JI D i=if D.dn=true then 18 else if i<0∨(D.cnt:Int)≤i then 2 else 0:=rfl
 refine aH Tryz.func254 fun κ _ Je Jc hm=>?_
 refine au 24 ?_
 refine cd (fun ao=>?_) fun ao=>?_
 ·
  refine au 9 ?_
  exact ⟨by rw [fC,LI ao],hm.to⟩
 ·
  refine au 9 ?_
  refine J1 rfl rfl rfl (fun hc=>(J8 (gx hc rfl) QL)) go105 (fun hc=>(yb D m pb cb gb bb pc cc gc bc gm es ck cs B _ (hZ.ext hm.to) hz)) trivial fun w hE hh=>?_
  replace hm:=hm.ext hE
  refine au 5 ?_
  refine cd (fun aD=>?_) fun aD=>?_
  ·
   simp only [bB,dT] at aD
   refine au 9 ?_
   exact ⟨by rw [fC,LH (by simp [ao]),LI Ta],hm.to⟩
  ·
   simp only [bD,dF] at aD
   refine au 10 ?_
   exact ⟨by rw [fC,LH (by simp [ao]),LH Ta],hm.to⟩
theorem G4(D:Pl.Dv)(m:Nat)(pb:Tg)(cb gb:Nat)(bb:ag)(pc:Tg)(cc gc:Nat)(bc:ag)(gm:Nat)(es:List (Int×Int×Nat))(ck:Nat)(cs:List PdV)(B:Tf)(w0:World)(hZ:Jr w0 ((m,.row 112 (dI D pb cb pc cc gm))::(gb,bb)::(gc,bc)::(gm,ep es ck)::B))(hz:mu 112 258 5 D m pb cb gb bb pc cc gc bc gm es cs B):C Tryz.prog 106 [.pointer (some ⟨m,0,none⟩)] w0 fun v w'=>v=.agg ⟨[.int .i64 D.sW,.int .i64 D.sF,.int .i64 D.sC,.int .i64 D.sH,.int .i64 D.sM]⟩∧Ext No w0 w':=by
 have hP:w0.heap[m]?=some (ag.row 112 (dI D pb cb pc cc gm)).Jd:=hZ.get (k:=0) rfl
 have aq:=hz.ok
 have o1:=aq.sz
 have o2:=aq.len
 have o3:=aq.cnt
 have o4:=aq.max
 have o5:D.cnt≤D.cnt*D.sz:=Lu _ o1
 have o6:=hz.ab.le
 have o7:D.sz≤D.cnt*D.sz:=L1 _ o3
 refine aH Tryz.func106 fun κ _ Je Jc hm=>?_
 refine au 2 ?_
 refine aT hm fun m1 w hm=>?_
 refine au 17 ?_
 refine Ja rfl rfl (Jm (s:=5) (vs:=[_,_,_,_,_]) rfl ag108.h (Qo ((hm.to.same _ (Lb.1 hP).1 id).trans hP)) rfl)<|st hm 0 fun w hm=>?_
 refine au 4 ?_
 exact ⟨rfl,hm.to⟩
theorem Nj(D:Pl.Dv)(m:Nat)(pb:Tg)(cb gb:Nat)(bb:ag)(pc:Tg)(cc gc:Nat)(bc:ag)(gm:Nat)(es:List (Int×Int×Nat))(ck:Nat)(cs:List PdV)(B:Tf)(w0:World)(hZ:Jr w0 ((m,.row 112 (dI D pb cb pc cc gm))::(gb,bb)::(gc,bc)::(gm,ep es ck)::B))(hz:mu 112 258 5 D m pb cb gb bb pc cc gc bc gm es cs B):C Tryz.prog 25 [.pointer (some ⟨m,0,none⟩)] w0 fun v w'=>∃ q c g b,v=.slice q D.dk.length c∧Acc 5 1 q (D.dk).length c ((D.dk).flatMap Jk) g b∧Mem w0 w' No [(g,b)]:=by
 have hP:w0.heap[m]?=some (ag.row 112 (dI D pb cb pc cc gm)).Jd:=hZ.get (k:=0) rfl
 have aq:=hz.ok
 have o1:=aq.sz
 have o2:=aq.len
 have o3:=aq.cnt
 have o4:=aq.max
 have o5:D.cnt≤D.cnt*D.sz:=Lu _ o1
 have o6:=hz.ab.le
 have o7:D.sz≤D.cnt*D.sz:=L1 _ o3
 have hB:=hz.ab.Fy hZ Tc
 refine aH Tryz.func25 fun κ _ Je Jc hm=>?_
 refine au 22 ?_
 refine cT rfl rfl rfl (V0 pb cb D.dk _ (hB.Jj hm.to) Ta) fun v w hR=>?_
 obtain ⟨aK,aj,aI,aF,rfl,ah,ae⟩:=hR
 have q6:aF.real=true→_:=fun hr=>(ae.fresh _ Lo hr).resolve_left id
 replace hm:=hm.Jt ae
 refine au 5 ?_
 exact ⟨aK,aj,aI,aF,rfl,ah,(hm.pick [0] rfl)⟩
theorem Nk(D:Pl.Dv)(m:Nat)(pb:Tg)(cb gb:Nat)(bb:ag)(pc:Tg)(cc gc:Nat)(bc:ag)(gm:Nat)(es:List (Int×Int×Nat))(ck:Nat)(cs:List PdV)(B:Tf)(w0:World)(hZ:Jr w0 ((m,.row 112 (dI D pb cb pc cc gm))::(gb,bb)::(gc,bc)::(gm,ep es ck)::B))(hz:mu 112 258 5 D m pb cb gb bb pc cc gc bc gm es cs B)(i:Int):C Tryz.prog 219 [.pointer (some ⟨m,0,none⟩),.int .i64 i] w0 fun v w'=>∃ q c g b,v=.tuple ⟨[.slice q (if Pl.JI D i=0 then Pl.ej D i else []).length c,.int .i64 (Pl.JI D i)]⟩∧Acc 5 1 q ((if Pl.JI D i=0 then Pl.ej D i else [])).length c (((if Pl.JI D i=0 then Pl.ej D i else [])).flatMap Jk) g b∧Mem w0 w' No [(g,b)]:=by
 have hP:w0.heap[m]?=some (ag.row 112 (dI D pb cb pc cc gm)).Jd:=hZ.get (k:=0) rfl
 have aq:=hz.ok
 have o1:=aq.sz
 have o2:=aq.len
 have o3:=aq.cnt
 have o4:=aq.max
 have o5:D.cnt≤D.cnt*D.sz:=Lu _ o1
 have o6:=hz.ab.le
 have o7:D.sz≤D.cnt*D.sz:=L1 _ o3
 have hB:=hz.ab.Fy hZ Tc
 have hC:=hz.ac.Fy hZ Tc
 have hM:=hZ.get (k:=3) rfl
 have Ug:=iV hz.cw
 refine aH Tryz.func219 fun κ _ Je Jc hm=>?_
 refine au 11 ?_
 refine cA rfl rfl rfl (q7 D m pb cb gb bb pc cc gc bc gm es ck cs B _ (hZ.ext hm.to) hz i) hm fun w hm=>au 9 ?_
 refine cd (fun ai=>?_) fun ai=>?_
 ·
  simp only [dT] at ai
  have FC:(if Pl.JI D i=0 then Pl.ej D i else [])=[]:=LH ai
  refine au 10 ?_
  exact ⟨none,0,0,.gap,by rw [FC]; rfl,by rw [FC]; exact .nil _ _ _ _,(hm.drop (List.nil_sublist _)).JP⟩
 ·
  simp only [dF,Decidable.not_not] at ai
  have FC:(if Pl.JI D i=0 then Pl.ej D i else [])=Pl.ej D i:=LI ai
  obtain ⟨_,nM,ki⟩:=xJ ai
  obtain ⟨ii,rfl⟩:∃ ii:Nat,i=ii:=⟨i.toNat,Ta⟩
  have jn:=Pl.sZ (cnt:=D.cnt) (i:=ii) Ta aq.len aq.ca
  have kf:Pl.ej D (ii:Int)=((D.ca.foldl (Pl.jP D.sz) D.dk).drop (ii*D.sz)).take D.sz:=rfl
  refine au 10 ?_
  refine Ja rfl rfl (Ci rfl rfl mi110 (Qo ((hm.to.same _ (Lb.1 hM).1 id).trans hM)))<|au 12 ?_
  refine cd (fun ao=>?_) fun ao=>?_
  ·
   obtain ⟨k,hk⟩:=Option.isSome_iff_exists.1 ao
   obtain ⟨c,FD,Nl,vp,tY⟩:=jn.1 k (by rw [← hz.mp]; exact hk)
   obtain ⟨kn,rfl⟩:∃ kn:Nat,k=kn:=⟨k.toNat,Ta⟩
   obtain ⟨x,hx⟩:∃ y_,cs[kn]?=some y_:=⟨_,La Ta⟩
   obtain ⟨b2,o8,hq⟩:=hC.bS gH Tb hx
   have Uh:=Co hz.cw hx
   rw [LD,Uh] at Nl
   have Nn:x.d.bs=c.2:=LM Prod.snd (Option.some.inj Nl)
   have rZ:x.d.bs.length=D.sz:=by rw [Nn]; exact (aq.ca c (by have:=Ld Uh; rw [Option.some.inj Nl] at this; exact this)).2
   refine au 6 ?_
   refine Ja rfl rfl (cy (Jx rfl) (show _=Value.int .i64 (kn:Int) by rw [hk]; rfl))<|Ja rfl rfl (Qy rfl rfl sl109.h hq Ta Ta)<|au 1 ?_
   refine Ja rfl rfl (Yr rfl sc22.h (hq▸hC.Jj hm.to).nt gH hx rfl)<|cT rfl rfl rfl (V0 x.d.p x.d.cap x.d.bs _ (((hz.hd x (Ld hx)).mono (fun e he=>by simp [he])).Fy (hZ.ext hm.to)) Ta) fun v w hR=>?_
   obtain ⟨aK,aj,aI,aF,rfl,ah,ae⟩:=hR
   have q6:aF.real=true→_:=fun hr=>(ae.fresh _ Lo hr).resolve_left id
   replace hm:=hm.Jt ae
   refine au 7 ?_
   exact ⟨aK,aj,aI,aF,by rw [FC,kf,vp,ai,Nn],by rw [FC,kf,vp,← Nn]; exact ah,(hm.pick [0] rfl)⟩
  ·
   have fh:Pl.Yn D.ca ii=none:=by rw [← hz.mp]; simpa using ao
   have vp:=jn.2 fh
   have hsec:=Pl.V9 (sz:=D.sz) (cnt:=D.cnt) (i:=ii) Ta
   have Kp:((D.dk.drop (ii*D.sz)).take D.sz).length=D.sz:=by rw [Lg,Lm]; omega
   refine au 8 ?_
   refine cA rfl rfl rfl (tW D m pb cb pc _ cc gm _ _ ((hm.to.same _ (Lb.1 hP).1 id).trans hP) o4 Ta hz.ab.spot o1 ii Ta) hm fun w hm=>cT rfl rfl rfl (C.eqv (V0 (bP pb cb (ii*D.sz) 1) (cb-ii*D.sz) ((D.dk.drop (ii*D.sz)).take D.sz) _ ((hB.Jj hm.to).sub o6) Ta) (by rw [Kp])) fun v w hR=>?_
   obtain ⟨aK,aj,aI,aF,rfl,ah,ae⟩:=hR
   have q6:aF.real=true→_:=fun hr=>(ae.fresh _ Lo hr).resolve_left id
   replace hm:=hm.Jt ae
   refine au 6 ?_
   exact ⟨aK,aj,aI,aF,by rw [FC,kf,vp,ai],by rw [FC,kf,vp]; exact ah,(hm.pick [0] rfl)⟩
theorem jb(D:Pl.Dv)(m:Nat)(pb:Tg)(cb gb:Nat)(bb:ag)(pc:Tg)(cc gc:Nat)(bc:ag)(gm:Nat)(es:List (Int×Int×Nat))(ck:Nat)(cs:List PdV)(B:Tf)(w0:World)(hZ:Jr w0 ((m,.row 112 (dI D pb cb pc cc gm))::(gb,bb)::(gc,bc)::(gm,ep es ck)::B))(hz:mu 112 258 5 D m pb cb gb bb pc cc gc bc gm es cs B)(bL:D.ca.length≤2000000000)(keep:Nat→Bool)(fi:FuncId)(l2:Ti)(hg:JH Tryz.prog fi=true)(hf:∀ (k:Nat) w1,w1.heap[m]?=some (ag.row 112 (dI D pb cb pc cc gm)).Jd→Ext (Mn (ak ((m,.row 112 (dI D pb cb pc cc gm))::(gb,bb)::(gc,bc)::(gm,ep es ck)::B))) w0 w1→C Tryz.prog fi (.int .i64 k::l2) w1 fun v w2=>v=.bool (keep k)∧Ext No w1 w2):C Tryz.prog 140 [.pointer (some ⟨m,0,none⟩),.func (.func fi) #[] ⟨l2⟩] w0 fun v w'=>v=.tuple ⟨[]⟩∧∃ bb',Mem w0 w' (Mn (ak ((m,.row 112 (dI D pb cb pc cc gm))::(gb,bb)::(gc,bc)::(gm,ep es ck)::B))) ((m,.row 112 (dI (Pl.bm D keep) pb cb none 0 gm))::(gb,bb')::(0,.gap)::(gm,ep [] ck)::B)∧mu 112 258 5 (Pl.bm D keep) m pb cb gb bb' none 0 0 .gap gm [] [] B:=by
 have hP:w0.heap[m]?=some (ag.row 112 (dI D pb cb pc cc gm)).Jd:=hZ.get (k:=0) rfl
 have aq:=hz.ok
 have o1:=aq.sz
 have o2:=aq.len
 have o3:=aq.cnt
 have o4:=aq.max
 have o5:D.cnt≤D.cnt*D.sz:=Lu _ o1
 have o6:=hz.ab.le
 have o7:D.sz≤D.cnt*D.sz:=L1 _ o3
 have aS:=hz.ab
 have fH:=hz.ac
 have Ug:=iV hz.cw
 have Kp:(Pl.bm D keep).dk.length=D.dk.length:=Pl.Xr aq.len aq.ca
 have cK:dI (Pl.bm D keep) pb cb none 0 gm=[.int .i64 (D.sz:Int),.slice pb D.dk.length cb,.int .i64 D.wr,.int .u64 D.kp,.int .i64 D.sW,.int .i64 D.sF,.int .i64 D.sC,.int .i64 D.sH,.int .i64 D.sM,.slice none 0 0,.map (some gm),.bool D.dn]:=by unfold dI; rw [Kp]; rfl
 refine Vk Tryz.func140 rfl rfl rfl fun κ _ Je Jc=>?_
 have hm:=hZ.start
 refine au 12 ?_
 refine Jg (ι:=Nat×ag) rfl (ks:=[0,1,9,10]) Tn (fun x=>[(11,.int .i64 x.1)]) (fun x w=>Mem w0 w (Mn (ak ((m,.row 112 (dI D pb cb pc cc gm))::(gb,bb)::(gc,bc)::(gm,ep es ck)::B))) ((m,.row 112 (dI D pb cb pc cc gm))::(gb,x.2)::(gc,bc)::(gm,ep es ck)::B)∧Acc 5 1 pb D.dk.length cb ((Pl.dr D.sz keep 0 D.dk (D.ca.take x.1)).flatMap Jk) gb x.2∧x.1≤cs.length) (fun x=>cs.length-x.1) (0,bb) (⟨hm,aS,LL _⟩) Tm (fun x w hM=>?_)
 obtain ⟨hm,aS,hk⟩:=hM
 refine au 6 ?_
 refine cd (fun ai=>?_) fun ai=>?_
 ·
  simp only [dT] at ai
  obtain ⟨c,hi⟩:∃ y_,cs[x.1]?=some y_:=⟨_,La Ta⟩
  obtain ⟨b2,o2_,hq⟩:=(fH.rd hm 2 rfl).bS gH Tb hi
  have Z6:=Co hz.cw hi
  have hcw:=aq.ca _ (Ld Z6)
  have bY:(Pl.dr D.sz keep 0 D.dk (D.ca.take x.1)).length=D.dk.length:=Pl.Xr aq.len fun d hd=>aq.ca d (List.mem_of_mem_take hd)
  have I8:c.i*D.sz+D.sz≤D.cnt*D.sz:=Pl.V9 hcw.1
  have Df:c.d.bs.length=D.sz:=hcw.2
  have yc:c.i<D.cnt:=hcw.1
  refine au 7 ?_
  refine Ja rfl rfl (Qy rfl rfl sl109.h hq Ta Ta)<|Ja rfl rfl (JU rfl ag258.h (hq▸fH.rd hm 2 rfl).nt gH hi)<|aT hm fun m1 w hm=>?_
  refine au 1 ?_
  refine st hm 0 fun w hm=>?_
  refine au 6 ?_
  refine Qf rfl rfl rfl rfl hg (hf x.1 _ (hm.get (k:=1) rfl) hm.to) fun v w hR=>?_
  obtain ⟨rfl,hE⟩:=hR
  refine ⟨trivial,?_⟩
  replace hm:=hm.ext hE
  refine au 2 ?_
  refine cd (fun ao=>?_) fun ao=>?_
  ·
   refine dw [0,3,6,9,12,18,21,16,2,25] hm fun w hw ar hh hm=>?_
   refine au 7 ?_
   refine cB rfl rfl rfl (tW D m pb cb pc _ cc gm _ _ (hm.get (k:=1) rfl) o4 Ta hz.ab.spot o1 c.i yc) hm hh fun w hm hh=>au 1 ?_
   refine kh (o:=c.i*D.sz) (src:=(c.d.bs).flatMap Jk) rfl rfl rfl rfl rfl sl22.h Ta ((hz.hd c (Ld hi)).rd hm (by intro e he; simp [he,Qr])) (by rw [J0]; omega) (Zl _) aS hm 2 rfl fun fX w aS hm=>?_
   replace aS:=aS.to (Y0 (by rw [bY]; omega))
   refine au 7 ?_
   first | refine next (x.1+1,fX) Td ⟨(hm.Jp [1,2,3,4] 5 rfl),aS.to ?_,Td⟩ ⟨nx x.1,Tm⟩ | refine next (x.1+1,x.2) Td ⟨(hm.Jp [1,2,3,4] 5 rfl),aS.to ?_,Td⟩ ⟨nx x.1,Tm⟩
   rw [Pl.ph Z6,ao]; rfl
  ·
   refine au 7 ?_
   first | refine next (x.1+1,fX) Td ⟨(hm.Jp [1,2,3,4] 5 rfl),aS.to ?_,Td⟩ ⟨nx x.1,Tm⟩ | refine next (x.1+1,x.2) Td ⟨(hm.Jp [1,2,3,4] 5 rfl),aS.to ?_,Td⟩ ⟨nx x.1,Tm⟩
   rw [Pl.ph Z6,ao]; rfl
 ·
  simp only [dF] at ai
  rw [LZ Ta] at aS
  refine au 10 ?_
  refine st hm 0 fun w hm=>?_
  refine au 7 ?_
  refine tb rfl rfl mi110 hm 3 rfl fun w hm=>au 1 ?_
  refine eK (fin Jc rfl .nil .nil ?_)
  exact ⟨rfl,x.2,by rw [cK]; exact (hm.JP.Jp [1,2,0,4] 5 rfl),⟨by rw [Kp]; exact aS,.nil _ _ _ _,rfl,Tc,fun k=>rfl,Pl.Yk aq keep⟩⟩
theorem gFt:JH Tryz.prog 288=true:=by kernel_rfl
theorem gRt:JH Tryz.prog 141=true:=by kernel_rfl
theorem gWt:JH Tryz.prog 305=true:=by kernel_rfl
theorem G5(k:Nat)(w0:World):C Tryz.prog 288 [.int .i64 (k:Int)] w0 fun v w'=>v=.bool true∧Ext No w0 w':=by
 refine aH Tryz.func288 fun κ _ Je Jc hm=>?_
 refine au 12 ?_
 exact ⟨rfl,hm.to⟩
theorem Dg(k:Nat)(w0:World):C Tryz.prog 141 [.int .i64 (k:Int)] w0 fun v w'=>v=.bool false∧Ext No w0 w':=by
 refine aH Tryz.func141 fun κ _ Je Jc hm=>?_
 refine au 12 ?_
 exact ⟨rfl,hm.to⟩
theorem Np(m1 T1:Nat)(D:Pl.Dv)(m:Nat)(pb:Tg)(cb:Nat)(pc:Tg)(cc gm:Nat)(k:Nat)(w0:World)(h1:w0.heap[m1]?=some (ag.row T1 [.pointer (some ⟨m,0,none⟩)]).Jd)(hP:w0.heap[m]?=some (ag.row 112 (dI D pb cb pc cc gm)).Jd):C Tryz.prog 305 [.int .i64 (k:Int),.pointer (some ⟨m1,0,none⟩)] w0 fun v w'=>v=.bool (Pl.gG D.kp k)∧Ext No w0 w':=by
 refine aH Tryz.func305 fun κ _ Je Jc hm=>?_
 refine au 13 ?_
 refine Ja rfl rfl (sm rfl rfl Ta rfl)<|Ja rfl rfl (V1 rfl rfl (Int.tmod_nonneg _ (Int.natCast_nonneg _)) rfl)<|Ja rfl rfl (VA rfl rfl rfl)<|au 6 ?_
 exact ⟨rfl,hm.to⟩
theorem G6(D:Pl.Dv)(m:Nat)(pb:Tg)(cb gb:Nat)(bb:ag)(pc:Tg)(cc gc:Nat)(bc:ag)(gm:Nat)(es:List (Int×Int×Nat))(ck:Nat)(cs:List PdV)(B:Tf)(w0:World)(hZ:Jr w0 ((m,.row 112 (dI D pb cb pc cc gm))::(gb,bb)::(gc,bc)::(gm,ep es ck)::B))(hz:mu 112 258 5 D m pb cb gb bb pc cc gc bc gm es cs B)(bL:D.ca.length≤1000000000):C Tryz.prog 265 [.pointer (some ⟨m,0,none⟩)] w0 fun v w'=>v=.int .i64 (Pl.QS D)∧∃ Z',JV 112 258 5 (Pl.fe D) m Z'∧Mem w0 w' (Mn (ak ((m,.row 112 (dI D pb cb pc cc gm))::(gb,bb)::(gc,bc)::(gm,ep es ck)::B))) Z':=by
 have hP:w0.heap[m]?=some (ag.row 112 (dI D pb cb pc cc gm)).Jd:=hZ.get (k:=0) rfl
 have aq:=hz.ok
 have o1:=aq.sz
 have o2:=aq.len
 have o3:=aq.cnt
 have o4:=aq.max
 have o5:D.cnt≤D.cnt*D.sz:=Lu _ o1
 have o6:=hz.ab.le
 have o7:D.sz≤D.cnt*D.sz:=L1 _ o3
 have aS:=hz.ab
 have fH:=hz.ac
 have Ug:=iV hz.cw
 have fC:Pl.JI D 0=Pl.QS D:=by unfold Pl.JI Pl.QS; rw [LH (show ¬ ((0:Int)<0∨(D.cnt:Int)≤0) by omega)]
 have Nq:Pl.QS D=if D.dn=true then 18 else 0:=rfl
 have qk:Pl.fe D=if D.dn=true then D else { Pl.bm D (fun _=>true) with sF:=Pl.inc D.sF }:=rfl
 have Kp:=Pl.Xr (keep:=fun _=>true) (k:=0) aq.len aq.ca
 refine Vk Tryz.func265 rfl rfl rfl fun κ _ Je Jc=>?_
 have hm:=hZ.start
 refine au 9 ?_
 refine cA rfl rfl rfl (C.as (q7 D m pb cb gb bb pc cc gc bc gm es ck cs B _ hm.Jz hz 0) (LM (Value.int .i64) fC)) hm fun w hm=>au 9 ?_
 refine cd (fun ai=>?_) fun ai=>?_
 ·
  have eB:D.dn=true:=by rw [Nq] at ai; simpa using ai
  refine au 9 ?_
  exact ⟨rfl,_,by rw [qk,LI eB]; exact hz.dev ck,(hm.Jp [0,1,2,3] 4 rfl)⟩
 ·
  have eB:¬ D.dn=true:=by rw [Nq] at ai; simpa using ai
  refine au 5 ?_
  refine cT rfl rfl rfl (jb D m pb cb gb bb pc cc gc bc gm es ck cs B _ hm.Jz hz Ta (fun _=>true) _ _ gFt (fun k w1 _ _=>(G5 k w1).mono fun v w2 h=>⟨h.1,h.2⟩)) fun v w hR=>?_
  obtain ⟨rfl,Ui,ae,eC⟩:=hR
  replace hm:=hm.JQ (A:=[]) ae
  refine au 9 ?_
  refine Ja rfl rfl (J5 rfl rfl rfl)<|au 3 ?_
  refine st hm 0 fun w hm=>?_
  refine au 9 ?_
  exact ⟨by rw [Nq,LH eB],_,by rw [qk,LH eB]; exact (eC.as (D2:={ Pl.bm D (fun _=>true) with sF:=Pl.inc D.sF }) rfl rfl (by have:=Pl.s8 aq; rw [qk,LH eB] at this; exact this)).dev _,(hm.Jp [0,1,2,3] 4 rfl)⟩
theorem Uj(D:Pl.Dv)(m:Nat)(pb:Tg)(cb gb:Nat)(bb:ag)(pc:Tg)(cc gc:Nat)(bc:ag)(gm:Nat)(es:List (Int×Int×Nat))(ck:Nat)(cs:List PdV)(B:Tf)(w0:World)(hZ:Jr w0 ((m,.row 112 (dI D pb cb pc cc gm))::(gb,bb)::(gc,bc)::(gm,ep es ck)::B))(hz:mu 112 258 5 D m pb cb gb bb pc cc gc bc gm es cs B)(n k:Int)(hn:Pl.aA n)(hk:0≤k∧k≤18446744073709551615):C Tryz.prog 76 [.pointer (some ⟨m,0,none⟩),.int .i64 n,.int .u64 k] w0 fun v w'=>v=.tuple ⟨[]⟩∧∃ Z',JV 112 258 5 (Pl.jQ D n k) m Z'∧Mem w0 w' (Mn (ak ((m,.row 112 (dI D pb cb pc cc gm))::(gb,bb)::(gc,bc)::(gm,ep es ck)::B))) Z':=by
 have hP:w0.heap[m]?=some (ag.row 112 (dI D pb cb pc cc gm)).Jd:=hZ.get (k:=0) rfl
 have aq:=hz.ok
 have o1:=aq.sz
 have o2:=aq.len
 have o3:=aq.cnt
 have o4:=aq.max
 have o5:D.cnt≤D.cnt*D.sz:=Lu _ o1
 have o6:=hz.ab.le
 have o7:D.sz≤D.cnt*D.sz:=L1 _ o3
 have aS:=hz.ab
 have fH:=hz.ac
 have Ug:=iV hz.cw
 refine Vk Tryz.func76 rfl rfl rfl fun κ _ Je Jc=>?_
 have hm:=hZ.start
 refine au 3 ?_
 refine Ja rfl rfl (qt rfl rfl pb67.h)<|au 11 ?_
 refine st hm 0 fun w hm=>?_
 refine au 1 ?_
 refine eK (fin Jc rfl .nil .nil ?_)
 exact ⟨rfl,_,(hz.as (D2:=Pl.jQ D n k) rfl rfl (Pl.lZ aq hn hk)).dev ck,(hm.Jp [0,1,2,3] 4 rfl)⟩
theorem Ab(D:Pl.Dv)(m:Nat)(pb:Tg)(cb gb:Nat)(bb:ag)(pc:Tg)(cc gc:Nat)(bc:ag)(gm:Nat)(es:List (Int×Int×Nat))(ck:Nat)(cs:List PdV)(B:Tf)(w0:World)(hZ:Jr w0 ((m,.row 112 (dI D pb cb pc cc gm))::(gb,bb)::(gc,bc)::(gm,ep es ck)::B))(hz:mu 112 258 5 D m pb cb gb bb pc cc gc bc gm es cs B)(bL:D.ca.length≤1000000000):C Tryz.prog 108 [.pointer (some ⟨m,0,none⟩)] w0 fun v w'=>v=.tuple ⟨[]⟩∧∃ Z',JV 112 258 5 (Pl.pj D) m Z'∧Mem w0 w' (Mn (ak ((m,.row 112 (dI D pb cb pc cc gm))::(gb,bb)::(gc,bc)::(gm,ep es ck)::B))) Z':=by
 have hP:w0.heap[m]?=some (ag.row 112 (dI D pb cb pc cc gm)).Jd:=hZ.get (k:=0) rfl
 have aq:=hz.ok
 have o1:=aq.sz
 have o2:=aq.len
 have o3:=aq.cnt
 have o4:=aq.max
 have o5:D.cnt≤D.cnt*D.sz:=Lu _ o1
 have o6:=hz.ab.le
 have o7:D.sz≤D.cnt*D.sz:=L1 _ o3
 have aS:=hz.ab
 have fH:=hz.ac
 have Ug:=iV hz.cw
 refine Vk Tryz.func108 rfl rfl rfl fun κ _ Je Jc=>?_
 have hm:=hZ.start
 refine au 3 ?_
 refine Ja rfl rfl (qt rfl rfl pb67.h)<|au 6 ?_
 refine cT rfl rfl rfl (jb D m pb cb gb bb pc cc gc bc gm es ck cs B _ hm.Jz hz Ta (fun _=>false) _ _ gRt (fun k w1 _ _=>(Dg k w1).mono fun v w2 h=>⟨h.1,h.2⟩)) fun v w hR=>?_
 obtain ⟨rfl,Ui,ae,eC⟩:=hR
 replace hm:=hm.JQ (A:=[]) ae
 refine au 7 ?_
 refine st hm 0 fun w hm=>?_
 refine au 7 ?_
 refine st hm 0 fun w hm=>?_
 refine au 1 ?_
 refine eK (fin Jc rfl .nil .nil ?_)
 exact ⟨rfl,_,(eC.as (D2:=Pl.pj D) rfl rfl (Pl.mj aq)).dev _,(hm.Jp [0,1,2,3] 4 rfl)⟩
theorem Uk(x y:Int)(q:Tg)(cq:Nat)(ps:List SB)(w0:World)(hq:Rd w0 q (ps.flatMap encS))(iC:∀ s∈ps,Rd w0 s.p (s.bs.flatMap Jk))(hl:ps.length≤4611686018427387903)(hb:(ps.flatMap (·.bs)).length≤140737488355328):C Tryz.prog 46 [.int .i64 x,.int .i64 y,.slice q ps.length cq] w0 fun v w'=>if Pl.right x y (ps.flatMap (·.bs)).length=true then ∃ m Z,v=.pointer (some ⟨m,0,none⟩)∧JV 112 258 5 (Pl.jR x.toNat y.toNat (ps.flatMap (·.bs))) m Z∧Mem w0 w' No Z else v=.pointer none∧Ext No w0 w':=by
 obtain ⟨BB,kq⟩:∃ B9,ps.flatMap (·.bs)=B9:=⟨_,rfl⟩
 refine aH Tryz.func46 fun κ _ Je Jc hm=>?_
 refine au 8 ?_
 refine cT rfl rfl rfl (Yc q cq ps _ (hq.Jj hm.to) (fun s hs=>(iC s hs).Jj hm.to) hl hb) fun v w hR=>?_
 obtain ⟨aK,dE,aj,aI,aF,rfl,ah,ae⟩:=hR
 have Kq:=ah.J0
 replace hm:=hm.Jt ae
 rw [kq] at ah Kq hb
 refine au 5 ?_
 rcases MJ x y BB.length with h | ⟨h1,h2,h3⟩ | ⟨h1,h2,h3,h4⟩ | ⟨h1,h2,h3,h4⟩
 ·
  have G7:Pl.right x y BB.length=false:=LN Ta
  refine au 4 ?_
  refine Ja rfl rfl (JA (c:=true) (VO rfl rfl) (LQ Ta))<|au 25 ?_
  rw [kq,LH (by rw [G7]; decide)]
  exact ⟨rfl,hm.to⟩
 ·
  have G7:Pl.right x y BB.length=false:=LN Ta
  refine au 4 ?_
  refine Ja rfl rfl (JA (c:=false) (VO rfl rfl) (LN Ta))<|au 3 ?_
  refine Ja rfl rfl (Yy rfl rfl Ta (divC h2))<|Ja rfl rfl (JA (c:=true) (XE rfl rfl) (LQ (jar h2 h3)))<|au 20 ?_
  rw [kq,LH (by rw [G7]; decide)]
  exact ⟨rfl,hm.to⟩
 ·
  have h0:0≤x*y:=Int.mul_nonneg Ta Ta
  have G7:Pl.right x y BB.length=false:=LN Ta
  refine au 4 ?_
  refine Ja rfl rfl (JA (c:=false) (VO rfl rfl) (LN Ta))<|au 3 ?_
  refine Ja rfl rfl (Yy rfl rfl Ta (divC h2))<|Ja rfl rfl (JA (c:=false) (XE rfl rfl) (LN (Int.not_lt.2 (R5 h2 h3))))<|au 7 ?_
  refine Ja rfl rfl (JA (c:=true) (XE rfl rfl) (LQ Ta))<|au 12 ?_
  rw [kq,LH (by rw [G7]; decide)]
  exact ⟨rfl,hm.to⟩
 ·
  obtain ⟨a,rfl⟩:∃ a:Nat,x=a:=⟨x.toNat,Ta⟩
  obtain ⟨c,rfl⟩:∃ c:Nat,y=c:=⟨y.toNat,Ta⟩
  have Ge:(a:Int)*(c:Int)=((c*a:Nat):Int):=by rw [Nat.mul_comm]; norm_cast
  rw [Ge] at h3 h4
  have G7:Pl.right a c BB.length=true:=LQ (by rw [Ge]; omega)
  have hMM:IntKind.i64.wrap ((a:Int)*(c:Int))=((c*a:Nat):Int):=by rw [Ge]; exact Ql Ta Ta
  have C0:1≤c*a:=Nat.mul_pos Ta Ta
  refine au 4 ?_
  refine Ja rfl rfl (JA (c:=false) (VO rfl rfl) (LN Ta))<|au 3 ?_
  refine Ja rfl rfl (Yy rfl rfl Ta (divC h2))<|Ja rfl rfl (JA (c:=false) (XE rfl rfl) (LN (Int.not_lt.2 (R5 h2 (by rw [Ge]; omega)))))<|au 6 ?_
  refine Ja rfl rfl (Vy rfl rfl hMM)<|Ja rfl rfl (JA (c:=false) (XE rfl rfl) (LN Ta))<|au 11 ?_
  refine Ja rfl rfl (Vy rfl rfl hMM)<|vN rfl rfl rfl rfl sl22.h z5.h rfl Ta Ta Ta hm trivial fun fY w hg_b aS hm hh=>au 2 ?_
  refine zC rfl rfl hm trivial fun g w hg_g hm hh=>Ja rfl rfl (Qe (cs:=[_,_,_,_,_,_,_,_,_,_,_,_]) z112.h ft112.h rfl rfl rfl rfl rfl)<|bT hm fun m1 w hm=>?_
  refine au 11 ?_
  refine kh (o:=0) (src:=BB.flatMap Jk) rfl rfl (by rw [R4 Ta]; rfl) rfl rfl sl22.h Ta (ah.rd hm 3 rfl) (by rw [J0]; omega) (Zl _) aS hm 2 rfl fun fX w aS hm=>?_
  rw [Gs] at aS
  replace aS:=aS.to (Y0 (o:=0) (by rw [List.length_replicate]; omega))
  rw [Pl.Cl Ta] at aS
  have cK:dI (Pl.jR a c BB) (some ⟨fY,0,none⟩) (c*a) none 0 g=[.int .i64 (a:Int),.slice (some ⟨fY,0,none⟩) (c*a) (c*a),.int .i64 (-1),.int .u64 0,.int .i64 0,.int .i64 0,.int .i64 0,.int .i64 0,.int .i64 0,.slice none 0 0,.map (some g),.bool false]:=by unfold dI; rw [Pl.xH Ta]; rfl
  refine au 10 ?_
  rw [kq,LI G7,LD,LD]
  exact ⟨_,_,rfl,mu.dev (pb:=some ⟨fY,0,none⟩) (cb:=c*a) (gb:=fY) (bb:=fX) (pc:=none) (cc:=0) (gc:=0) (bc:=.gap) (gm:=g) (es:=[]) (cs:=[]) (B:=[]) 0 ⟨by rw [show (Pl.jR a c BB).dk.length=c*a from Pl.xH Ta]; exact aS,.nil _ _ _ _,rfl,Tc,fun k=>rfl,Pl.qF Ta Ta Ta Ta⟩,by rw [cK]; exact (hm.JP.pick [1,3,0,2] rfl)⟩
theorem G8(D:Pl.Dv)(m:Nat)(pb:Tg)(cb gb:Nat)(bb:ag)(pc:Tg)(cc gc:Nat)(bc:ag)(gm:Nat)(es:List (Int×Int×Nat))(ck:Nat)(cs:List PdV)(B:Tf)(w0:World)(hZ:Jr w0 ((m,.row 112 (dI D pb cb pc cc gm))::(gb,bb)::(gc,bc)::(gm,ep es ck)::B))(hz:mu 112 258 5 D m pb cb gb bb pc cc gc bc gm es cs B)(q:Tg)(cq:Nat)(bs:Th)(i:Int)(hq:Rd w0 q (bs.flatMap Jk))(PM:bs.flatMap Jk≠[]→∀ a,q=some a→¬ (Mn (ak ((m,.row 112 (dI D pb cb pc cc gm))::(gb,bb)::(gc,bc)::(gm,ep es ck)::B))) a.block)(hle:bs.length≤cq)(bL:D.ca.length≤1000000000):C Tryz.prog 287 [.pointer (some ⟨m,0,none⟩),.int .i64 i,.slice q bs.length cq] w0 fun v w'=>v=.int .i64 (Pl.Yt D i bs)∧∃ Z',JV 112 258 5 (Pl.lY D i bs) m Z'∧Mem w0 w' (Mn (ak ((m,.row 112 (dI D pb cb pc cc gm))::(gb,bb)::(gc,bc)::(gm,ep es ck)::B))) Z':=by
 have hP:w0.heap[m]?=some (ag.row 112 (dI D pb cb pc cc gm)).Jd:=hZ.get (k:=0) rfl
 have aq:=hz.ok
 have o1:=aq.sz
 have o2:=aq.len
 have o3:=aq.cnt
 have o4:=aq.max
 have o5:D.cnt≤D.cnt*D.sz:=Lu _ o1
 have o6:=hz.ab.le
 have o7:D.sz≤D.cnt*D.sz:=L1 _ o3
 have aS:=hz.ab
 have fH:=hz.ac
 have Ug:=iV hz.cw
 have ow1:=aq.wr
 have RR:Pl.Yt D i bs=if Pl.JI D i≠0 then Pl.JI D i else if bs.length≠D.sz then 2 else if D.wr=0 then 18 else 0:=rfl
 refine Vk Tryz.func287 rfl rfl rfl fun κ _ Je Jc=>?_
 have hm:=hZ.start
 refine au 2 ?_
 refine bT hm fun m1 w hm=>?_
 refine au 8 ?_
 refine cA rfl rfl rfl (q7 D m pb cb gb bb pc cc gc bc gm es ck cs B _ (hm.Jp [1,2,3,4] 5 rfl).Jz hz i) hm fun w hm=>au 9 ?_
 refine cd (fun ai=>?_) fun ai=>?_
 ·
  simp only [dT] at ai
  refine au 9 ?_
  exact ⟨by rw [RR,LI ai],_,by rw [Pl.s' (.inl ai)]; exact hz.dev ck,(hm.Jp [1,2,3,4] 5 rfl)⟩
 ·
  simp only [dF,Decidable.not_not] at ai
  obtain ⟨_,nM,ki⟩:=xJ ai
  refine au 15 ?_
  refine cd (fun ao=>?_) fun ao=>?_
  ·
   simp only [dT] at ao
   have cO:bs.length≠D.sz:=by omega
   refine au 8 ?_
   exact ⟨by rw [RR,LH Ta,LI cO],_,by rw [Pl.s' (.inr cO)]; exact hz.dev ck,(hm.Jp [1,2,3,4] 5 rfl)⟩
  ·
   simp only [dF,Decidable.not_not] at ao
   have cO:bs.length=D.sz:=by omega
   refine au 3 ?_
   refine dw [0,3,6,9,12,15,18,21,24,27,2,31] hm fun w hw ar hh hm=>?_
   refine au 11 ?_
   refine sX rfl rfl rfl rfl mi110 hm 4 rfl fun G9 w hm=>au 3 ?_
   refine JS (.pure 0 (.pure 1 (.pure 2 (.pure 3 (.pure 4 (.pure 5 (.pure 6 (.act 7 (.pure 8 (.act 9 (.act 10 (.cut (.pure 11 (.pure 12 (.act 13 .done))))))))))))))) (fun j=>(j=gc∧bc.real=true)) fP Te hm fun w hw ar hh=>?_
   have hm:=ar
   refine Ja rfl rfl (Jh rfl sc67.h (ar.nd 0 rfl (ar.ta 0 3 rfl rfl rfl)) rfl)<|Ja rfl rfl (Jh rfl sc67.h (ar.nd 0 rfl (ar.ta 0 3 rfl rfl rfl)) rfl)<|au 2 ?_
   refine Ja rfl rfl (Jh rfl sc109.h (ar.nd 1 rfl (ar.ta 1 3 rfl rfl rfl)) rfl)<|au 2 ?_
   refine ca rfl rfl rfl (V0 q cq bs _ (hq.Yu hm.to PM) Ta) fun v w hR=>?_
   obtain ⟨aK,aj,aI,aF,rfl,ah,ae⟩:=hR
   refine ⟨hh.ext ae.to,?_⟩
   have q6:aF.real=true→_:=fun hr=>(ae.fresh _ Lo hr).resolve_left id
   replace hh:=hh.ext ae.to
   replace hm:=hm.Jt ae
   refine au 1 ?_
   refine Jb (l:=[_,_]) rfl rfl sl109.h z258.h rfl rfl rfl rfl rfl rfl rfl hm hh fun m2 w bo hm hh=>Xm rfl rfl rfl rfl rfl rfl sl109.h sl109.h z258.h rfl rfl (Rd.JL (hm.get (k:=0) rfl)) rfl fH hm 5 rfl Ta Ta hh (fun h=>.inr ⟨rfl,h⟩) fun Dh fj PN PO w _ fH hm hh hg_c=>au 3 ?_
   refine st hm 3 fun w hm=>?_
   have da:=hz.add ck ai cO bL fH ah
   have Di:∀ n:Int,dI { Pl.VB D i bs with wr:=n } pb cb Dh fj gm=[.int .i64 (D.sz:Int),.slice pb D.dk.length cb,.int .i64 n,.int .u64 D.kp,.int .i64 (Pl.inc D.sW),.int .i64 D.sF,.int .i64 D.sC,.int .i64 (max D.sH (i+1)),.int .i64 (max D.sM (D.ca.length+1:Nat)),.slice Dh (D.ca.length+1) fj,.map (some gm),.bool D.dn]:=fun n=>by unfold dI Pl.VB; simp only [Lc,LG]
   refine au 9 ?_
   refine Ja rfl rfl (J5 rfl rfl rfl)<|au 3 ?_
   refine st hm 3 fun w hm=>?_
   refine au 3 ?_
   refine dw [0,3,6,9,12,15,18,21,24,2,27,30,33,37] hm fun w hw ar hh hm=>?_
   refine au 13 ?_
   refine st hm 3 fun w hm=>?_
   refine au 3 ?_
   refine dw [0,3,6,9,12,15,18,21,24,27,30,33,2,36,39,42,46] hm fun w hw ar hh hm=>?_
   refine au 16 ?_
   refine st hm 3 fun w hm=>?_
   refine au 13 ?_
   refine cd (fun aD=>?_) fun aD=>?_
   ·
    simp only [dT] at aD
    refine au 8 ?_
    exact ⟨by rw [Pl.Xn ai cO,LH Ta],_,by rw [Pl.qE ai cO aD]; exact da.dev G9,by show Mem _ _ _ ((m,.row _ (dI { Pl.VB D i bs with wr:=D.wr } pb cb Dh fj gm))::_); rw [Di]; exact (hm.Jp [3,4,5,6,1] 7 rfl)⟩
   ·
    simp only [dF] at aD
    have r7:=da.as (D2:={ Pl.VB D i bs with wr:=D.wr-1 }) rfl rfl (Pl.R0 da.ok Ta)
    refine au 9 ?_
    refine Ja rfl rfl (QR rfl rfl (jaq Ta Ta))<|au 3 ?_
    refine st hm 3 fun w hm=>?_
    refine au 13 ?_
    refine cd (fun bg=>?_) fun bg=>?_
    ·
     simp only [dT] at bg
     refine au 8 ?_
     exact ⟨by rw [Pl.Xn ai cO,LH Ta],_,by rw [Pl.Ck ai cO Ta]; exact r7.dev G9,by show Mem _ _ _ ((m,.row _ (dI { Pl.VB D i bs with wr:=(D.wr-1) } pb cb Dh fj gm))::_); rw [Di]; exact (hm.Jp [3,4,5,6,1] 7 rfl)⟩
    ·
     simp only [dF] at bg
     have Ul:D.wr=0:=by omega
     rw [show D.wr-1=-1 by omega] at r7
     refine au 6 ?_
     have vq:Mem w0 w (Mn (ak ((m,.row 112 (dI D pb cb pc cc gm))::(gb,bb)::(gc,bc)::(gm,ep es ck)::B))) ((m1,.row 67 [.pointer (some ⟨m,0,none⟩)])::(m,.row 112 (dI { Pl.VB D i bs with wr:=(D.wr-1) } pb cb Dh fj gm))::(gb,bb)::(PN,PO)::(gm,ep (Zr es ck i D.ca.length) G9)::(aI,aF)::B):=by rw [Di]; exact (hm.Jp [2,3,4,5,6,1] 7 rfl)
     rw [show D.wr-1=-1 by omega] at vq
     refine cT rfl rfl rfl (jb { Pl.VB D i bs with wr:=(-1) } m pb cb gb bb Dh fj PN PO gm _ G9 _ _ _ vq.Jz.tail r7 (by show (D.ca++[(i.toNat,bs)]).length≤_; rw [Lc,LG]; omega) (Pl.gG D.kp) _ _ gWt (fun k w1 h9 hE=>Np m1 _ { Pl.VB D i bs with wr:=(-1) } m pb cb Dh fj gm k w1 ((hE.same m1 (Lb.1 (vq.get (k:=0) rfl)).1 vq.MI).trans (vq.get (k:=0) rfl)) h9)) fun v w hR=>?_
     obtain ⟨rfl,Ui,ae,eC⟩:=hR
     replace hm:=vq.ML ae
     refine au 7 ?_
     refine st hm 1 fun w hm=>?_
     refine au 9 ?_
     refine Ja rfl rfl (J5 rfl rfl rfl)<|au 3 ?_
     refine st hm 1 fun w hm=>?_
     refine au 9 ?_
     exact ⟨by rw [Pl.Xn ai cO,LI Ul],_,by rw [Pl.v7 ai cO Ul]; exact (eC.as (D2:={ Pl.bm { Pl.VB D i bs with wr:=(-1) } (Pl.gG D.kp) with dn:=true,sC:=Pl.inc D.sC }) rfl rfl (by rw [← Pl.v7 ai cO Ul]; exact Pl.s7 aq bL)).dev _,(hm.Jp [1,2,3,4] 5 rfl)⟩
theorem Um(D:Pl.Dv)(m:Nat)(Z:Tf)(w0:World)(hZ:Jr w0 Z)(hz:JV 112 258 5 D m Z)(n k:Int)(hn:Pl.aA n)(hk:0≤k∧k≤18446744073709551615):C Tryz.prog 76 [.pointer (some ⟨m,0,none⟩),.int .i64 n,.int .u64 k] w0 fun v w'=>v=.tuple ⟨[]⟩∧∃ Z',JV 112 258 5 (Pl.jQ D n k) m Z'∧Mem w0 w' (Mn (ak Z)) Z':=by
 obtain ⟨pb,cb,gb,bb,pc,cc,gc,bc,gm,es,ck,cs,B,rfl,hz⟩:=hz
 exact Uj D m pb cb gb bb pc cc gc bc gm es ck cs B w0 hZ hz n k hn hk
theorem Ac(D:Pl.Dv)(m:Nat)(Z:Tf)(w0:World)(hZ:Jr w0 Z)(hz:JV 112 258 5 D m Z)(bL:D.ca.length≤1000000000):C Tryz.prog 108 [.pointer (some ⟨m,0,none⟩)] w0 fun v w'=>v=.tuple ⟨[]⟩∧∃ Z',JV 112 258 5 (Pl.pj D) m Z'∧Mem w0 w' (Mn (ak Z)) Z':=by
 obtain ⟨pb,cb,gb,bb,pc,cc,gc,bc,gm,es,ck,cs,B,rfl,hz⟩:=hz
 exact Ab D m pb cb gb bb pc cc gc bc gm es ck cs B w0 hZ hz bL
theorem gU(D:Pl.Dv)(m:Nat)(Z:Tf)(w0:World)(hZ:Jr w0 Z)(hz:JV 112 258 5 D m Z)(bL:D.ca.length≤1000000000):C Tryz.prog 265 [.pointer (some ⟨m,0,none⟩)] w0 fun v w'=>v=.int .i64 (Pl.QS D)∧∃ Z',JV 112 258 5 (Pl.fe D) m Z'∧Mem w0 w' (Mn (ak Z)) Z':=by
 obtain ⟨pb,cb,gb,bb,pc,cc,gc,bc,gm,es,ck,cs,B,rfl,hz⟩:=hz
 exact G6 D m pb cb gb bb pc cc gc bc gm es ck cs B w0 hZ hz bL
theorem G'(D:Pl.Dv)(m:Nat)(Z:Tf)(w0:World)(hZ:Jr w0 Z)(hz:JV 112 258 5 D m Z)(q:Tg)(cq:Nat)(bs:Th)(i:Int)(hq:Rd w0 q (bs.flatMap Jk))(PM:bs.flatMap Jk≠[]→∀ a,q=some a→¬ Mn (ak Z) a.block)(hle:bs.length≤cq)(bL:D.ca.length≤1000000000):C Tryz.prog 287 [.pointer (some ⟨m,0,none⟩),.int .i64 i,.slice q bs.length cq] w0 fun v w'=>v=.int .i64 (Pl.Yt D i bs)∧∃ Z',JV 112 258 5 (Pl.lY D i bs) m Z'∧Mem w0 w' (Mn (ak Z)) Z':=by
 obtain ⟨pb,cb,gb,bb,pc,cc,gc,bc,gm,es,ck,cs,B,rfl,hz⟩:=hz
 exact G8 D m pb cb gb bb pc cc gc bc gm es ck cs B w0 hZ hz q cq bs i hq PM hle bL
theorem Xt(D:Pl.Dv)(m:Nat)(Z:Tf)(w0:World)(hZ:Jr w0 Z)(hz:JV 112 258 5 D m Z):C Tryz.prog 73 [.pointer (some ⟨m,0,none⟩)] w0 fun v w'=>v=.int .i64 (D.sz:Int)∧Ext No w0 w':=by
 obtain ⟨pb,cb,gb,bb,pc,cc,gc,bc,gm,es,ck,cs,B,rfl,hz⟩:=hz
 exact Ni D m pb cb gb bb pc cc gc bc gm es ck cs B w0 hZ hz
theorem X6(D:Pl.Dv)(m:Nat)(Z:Tf)(w0:World)(hZ:Jr w0 Z)(hz:JV 112 258 5 D m Z):C Tryz.prog 74 [.pointer (some ⟨m,0,none⟩)] w0 fun v w'=>v=.int .i64 (D.cnt:Int)∧Ext No w0 w':=by
 obtain ⟨pb,cb,gb,bb,pc,cc,gc,bc,gm,es,ck,cs,B,rfl,hz⟩:=hz
 exact Aa D m pb cb gb bb pc cc gc bc gm es ck cs B w0 hZ hz
theorem yd(D:Pl.Dv)(m:Nat)(Z:Tf)(w0:World)(hZ:Jr w0 Z)(hz:JV 112 258 5 D m Z):C Tryz.prog 106 [.pointer (some ⟨m,0,none⟩)] w0 fun v w'=>v=.agg ⟨[.int .i64 D.sW,.int .i64 D.sF,.int .i64 D.sC,.int .i64 D.sH,.int .i64 D.sM]⟩∧Ext No w0 w':=by
 obtain ⟨pb,cb,gb,bb,pc,cc,gc,bc,gm,es,ck,cs,B,rfl,hz⟩:=hz
 exact G4 D m pb cb gb bb pc cc gc bc gm es ck cs B w0 hZ hz
theorem Nr(D:Pl.Dv)(m:Nat)(Z:Tf)(w0:World)(hZ:Jr w0 Z)(hz:JV 112 258 5 D m Z):C Tryz.prog 25 [.pointer (some ⟨m,0,none⟩)] w0 fun v w'=>∃ q c g b,v=.slice q D.dk.length c∧Acc 5 1 q (D.dk).length c ((D.dk).flatMap Jk) g b∧Mem w0 w' No [(g,b)]:=by
 obtain ⟨pb,cb,gb,bb,pc,cc,gc,bc,gm,es,ck,cs,B,rfl,hz⟩:=hz
 exact Nj D m pb cb gb bb pc cc gc bc gm es ck cs B w0 hZ hz
theorem Dj(D:Pl.Dv)(m:Nat)(Z:Tf)(w0:World)(hZ:Jr w0 Z)(hz:JV 112 258 5 D m Z)(i:Int):C Tryz.prog 219 [.pointer (some ⟨m,0,none⟩),.int .i64 i] w0 fun v w'=>∃ q c g b,v=.tuple ⟨[.slice q (if Pl.JI D i=0 then Pl.ej D i else []).length c,.int .i64 (Pl.JI D i)]⟩∧Acc 5 1 q ((if Pl.JI D i=0 then Pl.ej D i else [])).length c (((if Pl.JI D i=0 then Pl.ej D i else [])).flatMap Jk) g b∧Mem w0 w' No [(g,b)]:=by
 obtain ⟨pb,cb,gb,bb,pc,cc,gc,bc,gm,es,ck,cs,B,rfl,hz⟩:=hz
 exact Nk D m pb cb gb bb pc cc gc bc gm es ck cs B w0 hZ hz i
theorem Un(x y:Int)(q:Tg)(cq:Nat)(ps:List SB)(w0:World)(hq:Rd w0 q (ps.flatMap encS))(iC:∀ s∈ps,Rd w0 s.p (s.bs.flatMap Jk))(hl:ps.length≤4611686018427387903)(hb:(ps.flatMap (·.bs)).length≤140737488355328)(BB:Th)(kq:ps.flatMap (·.bs)=BB)(hr:Pl.right x y BB.length=true):C Tryz.prog 46 [.int .i64 x,.int .i64 y,.slice q ps.length cq] w0 fun v w'=>∃ m Z,v=.pointer (some ⟨m,0,none⟩)∧JV 112 258 5 (Pl.jR x.toNat y.toNat BB) m Z∧Mem w0 w' No Z:=by
 subst kq
 exact (Uk x y q cq ps w0 hq iC hl hb).mono fun v w' h=>by rw [LI hr] at h; exact h
theorem Ns(x n:Int)(w0:World)(hv:0≤x∧x≤18446744073709551615)(hn:Pl.aA n):C Tryz.prog 215 [.agg ⟨[.int .u64 x,.int .i64 n]⟩] w0 fun v w'=>v=.bool (Pl.fits x n)∧Ext No w0 w':=by
 refine aH Tryz.func215 fun κ _ Je Jc hm=>?_
 refine au 2 ?_
 refine bT hm fun m1 w hm=>?_
 refine au 18 ?_
 refine JK rfl rfl rfl (fun hc=>(Vy rfl (gx hc rfl) (Ql (by simp at hc; omega) (by simp at hc; omega))))<|JK rfl rfl rfl (fun hc=>(QR (gx hc rfl) rfl (Ql (by simp at hc; omega) (by simp at hc; omega))))<|JK rfl rfl rfl (fun hc=>(V1 (gx hc rfl) (gx hc rfl) (by simp at hc; omega) rfl))<|JK rfl rfl rfl (fun hc=>(V1 (gx hc rfl) rfl Tb rfl))<|au 7 ?_
 exact ⟨LM Value.bool (Pl.Gi hv),hm.to⟩
theorem q8(r e:Nat)(p:Tg)(n cap:Nat)(s:Pl.RS)(c a:Int)(w0:World)(hr:w0.heap[r]?=some (ag.row e (xA p n cap s)).Jd):C Tryz.prog 256 [.pointer (some ⟨r,0,none⟩),.int .i64 c,.int .i64 a] w0 fun v w'=>v=.tuple ⟨[]⟩∧Mem w0 w' (fun k=>k=r) [(r,.row e (xA p n cap (s.fail c a)))]:=by
 refine Vk Tryz.func256 rfl rfl rfl fun κ _ Je Jc=>?_
 have hm:=Mem.Vq hr
 refine au 14 ?_
 refine cd (fun ai=>?_) fun ai=>?_
 ·
  simp only [bA,bB,bC,bD,bE,bF,dT,dF] at ai
  refine au 7 ?_
  refine st hm 0 fun w hm=>?_
  refine au 1 ?_
  refine eK (fin Jc rfl .nil .nil ?_)
  have e:s.fail c a=if s.code=0∧c≠0 then { s with code:=c,fat:=a } else s:=rfl
  first | (rw [LI Ta] at e; rw [e]; exact ⟨rfl,hm⟩) | (rw [LH Ta] at e; rw [e]; exact ⟨rfl,hm⟩)
 ·
  simp only [bA,bB,bC,bD,bE,bF,dT,dF] at ai
  refine au 1 ?_
  refine eK (fin Jc rfl .nil .nil ?_)
  have e:s.fail c a=if s.code=0∧c≠0 then { s with code:=c,fat:=a } else s:=rfl
  first | (rw [LI Ta] at e; rw [e]; exact ⟨rfl,hm⟩) | (rw [LH Ta] at e; rw [e]; exact ⟨rfl,hm⟩)
theorem Dk(r e:Nat)(p:Tg)(n cap:Nat)(s:Pl.RS)(m:Int)(w0:World)(hr:w0.heap[r]?=some (ag.row e (xA p n cap s)).Jd)(eQ:n≤cap)(cU:cap≠0→∀ ad,p=some ad→ad.spot=none)(qW:s.at_≤n)(hlen:n≤140737488355328)(ja0:Pl.aA m):C Tryz.prog 228 [.pointer (some ⟨r,0,none⟩),.int .i64 m] w0 fun v w'=>v=.tuple ⟨[tkV p cap s.at_ m (Pl.bI n s m).2,.bool (Pl.bI n s m).2]⟩∧Mem w0 w' (fun k=>k=r) [(r,.row e (xA p n cap (Pl.bI n s m).1))]:=by
 refine Vk Tryz.func228 rfl rfl rfl fun κ _ Je Jc=>?_
 have hm:=Mem.Vq hr
 refine au 19 ?_
 refine cd (fun ai=>?_) fun ai=>?_
 ·
  simp only [bA,bB,bC,bD,bE,bF,dT,dF] at ai
  refine au 10 ?_
  have e:Pl.bI n s m=(s,false):=by unfold Pl.bI; rw [LI ai]
  rw [e]; exact ⟨rfl,hm⟩
 ·
  simp only [bA,bB,bC,bD,bE,bF,dT,dF] at ai
  refine au 7 ?_
  refine cd (fun ao=>?_) fun ao=>?_
  ·
   simp only [bA,bB,bC,bD,bE,bF,dT,dF] at ao
   refine au 7 ?_
   refine cT rfl rfl rfl (q8 _ _ _ _ _ s _ _ _ (hm.get (k:=0) rfl)) fun v w hR=>?_
   obtain ⟨rfl,ae⟩:=hR
   replace hm:=hm.Qv 0 rfl ae
   refine au 12 ?_
   have e:Pl.bI n s m=(s.fail 2 s.at_,false):=by unfold Pl.bI; rw [LH ai,LI ao]
   rw [e]; exact ⟨rfl,hm⟩
  ·
   simp only [bA,bB,bC,bD,bE,bF,dT,dF] at ao
   refine au 1 ?_
   refine dw [0,3,6,9,12,15,18,21,24,27,30,33,36] hm fun w hw ar hh hm=>?_
   refine au 15 ?_
   refine cd (fun aD=>?_) fun aD=>?_
   ·
    simp only [bA,bB,bC,bD,bE,bF,dT,dF] at aD
    refine au 8 ?_
    refine cT rfl rfl rfl (q8 _ _ _ _ _ s _ _ _ (hm.get (k:=0) rfl)) fun v w hR=>?_
    obtain ⟨rfl,ae⟩:=hR
    replace hm:=hm.Qv 0 rfl ae
    refine au 12 ?_
    have e:Pl.bI n s m=(s.fail 8 n,false):=by unfold Pl.bI; rw [LH ai,LH ao,LI aD]
    rw [e]; exact ⟨rfl,hm⟩
   ·
    simp only [bA,bB,bC,bD,bE,bF,dT,dF] at aD
    refine au 13 ?_
    refine st hm 0 fun w hm=>?_
    refine au 3 ?_
    refine dw [0,3,6,9,12,15,18,21,24,27,30,33,36,39,42,45,48] hm fun w hw ar hh hm=>?_
    refine au 9 ?_
    refine Ja rfl rfl (QR rfl rfl ((Ql Ta Ta).trans (by omega:(s.at_:Int)+m-m=(s.at_:Int))))<|au 4 ?_
    refine Ja rfl rfl (JE (ln:=s.at_) (hn:=s.at_+m.toNat) rfl sl22.h ⟨_,rfl⟩ ⟨_,LM (fun x=>some (Value.int .i64 x)) Ta⟩ Ta Ta (fun h=>cU Ta))<|au 6 ?_
    have e:Pl.bI n s m=({ s with at_:=s.at_+m.toNat },true):=by unfold Pl.bI; rw [LH ai,LH ao,LH aD]
    have h9:(s.at_:Int)+m=((s.at_+m.toNat:Nat):Int):=by omega
    rw [h9] at hm
    rw [e]; exact ⟨by simp only [tkV,cond_true]; rw [Kk],hm⟩
theorem Nt(x c:Int)(r:Nat)(w0:World)(hr:w0.heap[r]?=some (ag.row 55 [.int .u64 x]).Jd)(hx:0≤x∧x<72057594037927936)(hc:0≤c∧c<256):C Tryz.prog 259 [.int .u8 c,.pointer (some ⟨r,0,none⟩)] w0 fun v w'=>v=.int .u64 (x*256+c)∧Mem w0 w' (fun k=>k=r) [(r,.row 55 [.int .u64 (x*256+c)])]:=by
 refine Vk Tryz.func259 rfl rfl rfl fun κ _ Je Jc=>?_
 have hm:=Mem.Vq hr
 refine au 8 ?_
 refine Ja rfl rfl (so rfl rfl Tb (jaj hx))<|au 1 ?_
 refine Ja rfl rfl (JX rfl is5 it55 (iJ Ta Ta))<|Ja rfl rfl (kX rfl rfl (or8 Ta Ta))<|st hm 0 fun w hm=>?_
 refine au 10 ?_
 exact ⟨rfl,hm⟩
theorem Uo(w0:World):C Tryz.prog 229 [] w0 fun v w'=>∃ m,v=.func (.func 259) #[] ⟨[.pointer (some ⟨m,0,none⟩)]⟩∧Mem w0 w' No [(m,.row 55 [.int .u64 0])]:=by
 refine aH Tryz.func229 fun κ _ Je Jc hm=>?_
 refine au 7 ?_
 refine aT hm fun m1 w hm=>?_
 refine st hm 0 fun w hm=>?_
 refine au 10 ?_
 exact ⟨_,rfl,hm⟩
theorem mY(r e:Nat)(p:Tg)(cap:Nat)(bs:Th)(s:Pl.RS)(m:Int)(w0:World)(hr:w0.heap[r]?=some (ag.row e (xA p bs.length cap s)).Jd)(hd:Rd w0 p (bs.flatMap Jk))(bO:bs.flatMap Jk≠[]→∀ ad,p=some ad→ad.block≠r)(eQ:bs.length≤cap)(cU:cap≠0→∀ ad,p=some ad→ad.spot=none)(qW:s.at_≤bs.length)(hlen:bs.length≤140737488355328)(ja0:Pl.aA m):C Tryz.prog 182 [.pointer (some ⟨r,0,none⟩),.int .i64 m] w0 fun v w'=>v=.int .u64 (Pl.aJ bs s m).2∧Mem w0 w' (fun k=>k=r) [(r,.row e (xA p bs.length cap (Pl.aJ bs s m).1))]:=by
 refine Vk Tryz.func182 rfl rfl rfl fun κ _ Je Jc=>?_
 have hm:=Mem.Vq hr
 refine au 15 ?_
 refine Xc (ι:=Unit) rfl (ks:=[0,4]) Tn (fun x=>[(1,.int .i64 (Pl.usize m))]) (fun x w=>Mem w0 w (fun k=>k=r) [(r,.row e (xA p bs.length cap s))]) ?_ (fun x w hM=>?_)
 ·
  refine au 10 ?_
  refine cd (fun ao=>?_) fun ao=>?_
  ·
   simp only [bA,bB,bC,bD,bE,bF,dT,dF] at ao
   refine au 3 ?_
   exact Qt () hm ⟨by unfold Pl.usize; first | (rw [LI Ta]; rfl) | (rw [LH Ta]; rfl),Tm⟩
  ·
   simp only [bA,bB,bC,bD,bE,bF,dT,dF] at ao
   refine au 1 ?_
   exact Qt () hm ⟨by unfold Pl.usize; first | (rw [LI Ta]; rfl) | (rw [LH Ta]; rfl),Tm⟩
 ·
  have hm:=hM
  refine au 6 ?_
  refine cT rfl rfl rfl (Dk r e p bs.length cap s (Pl.usize m) _ (hm.get (k:=0) rfl) eQ cU qW hlen (by unfold Pl.usize; split <;> omega)) fun v w hR=>?_
  obtain ⟨rfl,ae⟩:=hR
  replace hm:=hm.Qv 0 rfl ae
  refine au 14 ?_
  refine cd (fun aD=>?_) fun aD=>?_
  ·
   have aq:(Pl.bI bs.length s (Pl.usize m)).2=false:=by simpa using aD
   refine au 8 ?_
   exact ⟨by unfold Pl.aJ; rw [aq]; rfl,by rw [Pl.iQ]; exact hm⟩
  ·
   have aq:(Pl.bI bs.length s (Pl.usize m)).2=true:=by simpa using aD
   obtain ⟨ai,hu0,hu1,cF⟩:=Pl.B8 aq
   have hu8:Pl.usize m≤8:=by unfold Pl.usize; split <;> omega
   have ef:Rd w0 (bP p cap s.at_ 1) (((bs.drop s.at_).take (Pl.usize m).toNat).flatMap Jk):=hd.sub eQ
   have bL:((bs.drop s.at_).take (Pl.usize m).toNat).length=(Pl.usize m).toNat:=by rw [Lg,Lm]; omega
   generalize PQ:(bs.drop s.at_).take (Pl.usize m).toNat=cs at ef bL
   obtain ⟨pp,hpp⟩:∃ pp,bP p cap s.at_ 1=pp:=⟨_,rfl⟩
   rw [hpp] at ef
   have ja1:cs.flatMap Jk≠[]→∀ ad,pp=some ad→¬ ad.block=r:=fun h ad e=>by
    obtain ⟨a2,e2,e3⟩:=iN (hpp.trans e)
    rw [← e3]
    exact bO (fun e4=>by rw [vK e4] at PQ; simp at PQ; rw [PQ] at h; exact h rfl) a2 e2
   refine au 9 ?_
   refine cT rfl rfl rfl (Uo _) fun v w hR=>?_
   obtain ⟨m_x,rfl,ae⟩:=hR
   replace hm:=hm.Jt ae
   refine au 6 ?_
   refine Ja rfl rfl (cy (Jx rfl) (show _=Value.slice pp cs.length (cap-s.at_) by rw [aq,bL,← hpp]; rfl))<|au 5 ?_
   refine Jg (ι:=Nat) rfl (ks:=[4,8,30,31]) Tn (fun k=>[(32,.int .i64 k),(7,.int .u64 (Pl.num 0 (cs.take k)))]) (fun k w=>Mem w0 w (fun k=>k=r) [(m_x,.row 55 [.int .u64 (Pl.num 0 (cs.take k))]),(r,.row e (xA p bs.length cap (Pl.bI bs.length s (Pl.usize m)).1))]∧k≤cs.length) (fun k=>cs.length-k) 0 (⟨hm,LL _⟩) Tm (fun k w hM=>?_)
   obtain ⟨hm,hk⟩:=hM
   refine au 6 ?_
   refine cd (fun bg=>?_) fun bg=>?_
   ·
    simp only [dT] at bg
    obtain ⟨x,hi⟩:∃ y_,cs[k]?=some y_:=⟨_,La Ta⟩
    obtain ⟨qb,qo,rfl⟩:=ef.bS JG Tb hi
    have fB:Pl.num 0 (cs.take (k+1))=Pl.num 0 (cs.take k)*256+x.toNat:=by rw [LC,hi,Pl.xy]; rfl
    have rZ:x.toNat<256:=UInt8.toNat_lt x
    have hnb:=Pl.kg (cs.take k) 0 (Int.le_refl _)
    have PR:(256:Int) ^ (cs.take k).length≤256 ^ 7:=Pl.vO (by rw [Lg]; omega)
    have hp7:(256:Int) ^ 7=72057594037927936:=by decide
    refine au 7 ?_
    refine Ja rfl rfl (J3 rfl sc5.h (ef.Yu hm.to ja1).nt JG hi rfl)<|au 6 ?_
    refine Qf rfl rfl rfl rfl go259 (Nt _ _ m_x _ (hm.get (k:=0) rfl) Ta Ta) fun v w hR=>?_
    obtain ⟨rfl,ae⟩:=hR
    refine ⟨trivial,?_⟩
    replace hm:=hm.Qv 0 rfl ae
    refine au 8 ?_
    refine next (k+1) Ta ⟨by rw [fB]; exact hm,Ta⟩ ⟨nx k,by rw [fB]; rfl,Tm⟩
   ·
    simp only [dF] at bg
    obtain rfl:k=cs.length:=by omega
    rw [Lv] at hm
    refine au 13 ?_
    have e2:(Pl.aJ bs s m).2=Pl.num 0 cs:=by unfold Pl.aJ; rw [LI aq,PQ]
    rw [e2,Pl.iQ]
    exact ⟨by rw [Lv],hm.tail⟩
theorem tZ(p:Tg)(cap:Nat)(bs:Th)(q:Tg)(cq:Nat)(fs:Tl)(w0:World)(hx:Rd w0 p (bs.flatMap Jk))(hy:Rd w0 q (fs.flatMap Gm))(hlen:bs.length≤1099511627776)(hl:fs.length≤1099511627776)(aq:∀ f∈fs,Pl.okF f):C Tryz.prog 173 [.slice p bs.length cap,.slice q fs.length cq] w0 fun v w'=>∃ p n cap g b,v=.tuple ⟨[.slice p n cap,.bool (Pl.V6 fs)]⟩∧Acc 5 1 p n cap ((Pl.vP bs fs).flatMap Jk) g b∧Mem w0 w' No [(g,b)]:=by
 refine aH Tryz.func173 fun κ _ Je Jc hm=>?_
 refine au 9 ?_
 refine cT rfl rfl rfl (V0 p cap bs _ (hx.Jj hm.to) Ta) fun v w hR=>?_
 obtain ⟨aK,aj,aI,aF,rfl,ah,ae⟩:=hR
 have q6:aF.real=true→_:=fun hr=>(ae.fresh _ Lo hr).resolve_left id
 replace hm:=hm.Jt ae
 refine au 12 ?_
 refine Jg (ι:=Nat×Ow) rfl (ks:=[12,13]) Tn (fun x=>[(14,.int .i64 x.1),(6,.slice x.2.p x.2.n x.2.cap)]) (fun x w=>Mem w0 w No [(x.2.g,x.2.b)]∧Acc 5 1 x.2.p x.2.n x.2.cap ((bs++Pl.Vl (fs.take x.1)).flatMap Jk) x.2.g x.2.b∧x.1≤fs.length∧Pl.V6 (fs.take x.1)=true∧x.2.n≤bs.length+8*x.1) (fun x=>fs.length-x.1) (0,⟨aK,_,aj,aI,aF⟩) (⟨hm,by simpa [Pl.Vl] using ah,LL _,rfl,LP _⟩) Tm (fun x w hM=>?_)
 obtain ⟨hm,ah,hk,b7,hn⟩:=hM
 refine au 6 ?_
 refine cd (fun ai=>?_) fun ai=>?_
 ·
  simp only [dT] at ai
  obtain ⟨f,hi⟩:∃ y_,fs[x.1]?=some y_:=⟨_,La Ta⟩
  obtain ⟨qb,qo,rfl⟩:=hy.bS sS Tb hi
  have hf:=aq f (Ld hi)
  unfold Pl.okF at hf
  refine au 7 ?_
  refine Ja rfl rfl (JU rfl ag265.h (hy.Jj hm.to).nt sS hi)<|aT hm fun m1 w hm=>?_
  refine st hm 0 fun w hm=>?_
  refine au 6 ?_
  refine cA rfl rfl rfl (Ns _ _ _ hf.1 hf.2) hm fun w hm=>au 3 ?_
  refine cd (fun ao=>?_) fun ao=>?_
  ·
   simp only [bE] at ao
   refine au 14 ?_
   have e:Pl.V6 fs=false:=Pl.Ca hi ao
   exact ⟨none,0,0,0,.gap,by rw [e],by unfold Pl.vP; rw [e]; exact .nil _ _ _ _,(hm.drop (List.nil_sublist _)).JP⟩
  ·
   simp only [bF] at ao
   obtain ⟨hf1,hf2⟩:=Pl.lK ao
   refine au 11 ?_
   refine Jg (ι:=Nat×Ow×List UInt8) rfl (ks:=[8,12,13,14]) Tn (fun y=>[(9,.int .i64 ((y.1:Int)-1)),(6,.slice y.2.1.p y.2.1.n y.2.1.cap)]) (fun y w=>Mem w0 w No [(m1,.row 265 (Gm f)),(y.2.1.g,y.2.1.b)]∧Acc 5 1 y.2.1.p y.2.1.n y.2.1.cap ((bs++Pl.Vl (fs.take x.1)++y.2.2).flatMap Jk) y.2.1.g y.2.1.b∧y.2.2++Pl.be f.1 y.1=Pl.be f.1 f.2.toNat∧y.1≤8∧y.2.1.n+y.1≤bs.length+8*x.1+8) (fun y=>y.1) (f.2.toNat,x.2,[]) (⟨hm,by simpa using ah,rfl,Ta,Td⟩) ⟨(LM (fun z=>some (Value.int .i64 z)) Td),Tm⟩ (fun y w hM=>?_)
   obtain ⟨hm,ah,mZ,hj,FE⟩:=hM
   refine au 7 ?_
   refine cd (fun aD=>?_) fun aD=>?_
   ·
    simp only [dT] at aD
    refine au 10 ?_
    refine Ja rfl rfl (V1 rfl rfl Ta rfl)<|Ja rfl rfl (JX rfl is55 it5 (jak (k:=y.1-1) hf.1.1 Ta Ta))<|Jb (l:=[_]) rfl rfl sl22.h z5.h rfl rfl rfl rfl rfl rfl rfl hm trivial fun m2 w bo hm hh=>Jy rfl rfl rfl rfl rfl rfl sl22.h sl22.h z5.h rfl rfl (Rd.JL (hm.get (k:=0) rfl)) rfl ah hm 2 rfl Ta Ta fun aK aj aI aF w ah hm=>au 9 ?_
    refine next (y.1-1,⟨aK,_,aj,aI,aF⟩,y.2.2++[Pl.RT f.1 (y.1-1)]) Td ⟨hm.tail,ah.to ?_,?_,Td,Td⟩ ⟨nx1 y.1 Ta,Tm⟩
    · simp [Jk]
    · rw [← mZ]; simp only [Lp,List.singleton_append]; rw [show y.1=(y.1-1)+1 by omega]; rfl
   ·
    simp only [dF] at aD
    refine au 10 ?_
    refine next (x.1+1,y.2.1) Td ⟨hm.tail,ah.to ?_,Td,?_,Td⟩ ⟨nx x.1,Tm⟩
    · have Nu:y.1=0:=by omega
      rw [Nu,Pl.be,Lq] at mZ
      simp only [Pl.zt hi,← mZ,Lp]
    · simp only [Pl.zu hi,b7,ao]; rfl
 ·
  simp only [dF] at ai
  have hk:x.1=fs.length:=by omega
  rw [hk,Lv] at ah b7
  refine au 14 ?_
  exact ⟨_,_,_,_,_,by rw [b7],by unfold Pl.vP; rw [b7]; exact ah,hm⟩
theorem Dl(p q:Tg)(c1 c2:Nat)(xs ys:Th)(w0:World)(hx:Rd w0 p (xs.flatMap Jk))(hy:Rd w0 q (ys.flatMap Jk))(hc:xs.length≤c1)(cU:c1≠0→∀ ad,p=some ad→ad.spot=none):C Tryz.prog 255 [.slice p xs.length c1,.slice q ys.length c2] w0 fun v w'=>v=.bool (decide (ys.length≤xs.length)&&decide (xs.take ys.length=ys))∧Ext No w0 w':=by
 refine aH Tryz.func255 fun κ _ Je Jc hm=>?_
 refine au 15 ?_
 refine JK rfl rfl rfl (fun hc=>(gq (gx hc rfl) rfl sl22.h))<|JK rfl rfl rfl (fun hc=>(JE (ln:=0) (hn:=ys.length) (gx hc rfl) sl22.h rfl ⟨_,(gx hc rfl)⟩ (LL _) (by simp at hc; omega) (fun h=>cU Ta)))<|au 1 ?_
 refine J1 rfl rfl rfl (fun hc=>(J8 (gx hc rfl) (J8 (gx hc rfl) QL))) go80 (fun hc=>(C.eqv (GZ p q c1 c2 (xs.take ys.length) ys _ ((hx.Jj hm.to).BZ _) (hy.Jj hm.to)) (by simp at hc; rw [Lg,Nat.min_eq_left Ta,VR cU]; rfl))) trivial fun w hE hh=>?_
 replace hm:=hm.ext hE
 refine au 6 ?_
 exact ⟨LM Value.bool (by simp only [Int.ofNat_le]),hm.to⟩
theorem Ha(r e:Nat)(p:Tg)(n cap:Nat)(s:Pl.RS)(w0:World)(hr:w0.heap[r]?=some (ag.row e (xA p n cap s)).Jd):C Tryz.prog 222 [.pointer (some ⟨r,0,none⟩)] w0 fun v w'=>v=.agg ⟨[.int .i64 s.code,.int .i64 s.fat]⟩∧Ext No w0 w':=by
 refine aH Tryz.func222 fun κ _ Je Jc hm=>?_
 refine au 2 ?_
 refine aT hm fun m1 w hm=>?_
 refine au 18 ?_
 refine Ja rfl rfl (Jm (s:=2) (vs:=[_,_]) rfl ag46.h (Qo ((hm.to.same _ (Lb.1 hr).1 id).trans hr)) rfl)<|st hm 0 fun w hm=>?_
 refine au 4 ?_
 exact ⟨rfl,hm.to⟩
theorem ua(r e:Nat)(p:Tg)(cap:Nat)(bs:Th)(s:Pl.RS)(w0:World)(hr:w0.heap[r]?=some (ag.row e (xA p bs.length cap s)).Jd)(hd:Rd w0 p (bs.flatMap Jk))(bO:bs.flatMap Jk≠[]→∀ ad,p=some ad→ad.block≠r)(eQ:bs.length≤cap)(cU:cap≠0→∀ ad,p=some ad→ad.spot=none)(qW:s.at_≤bs.length)(hlen:bs.length≤140737488355328):C Tryz.prog 221 [.pointer (some ⟨r,0,none⟩)] w0 fun v w'=>v=.int .i64 (Pl.bH bs s).2∧Mem w0 w' (fun k=>k=r) [(r,.row e (xA p bs.length cap (Pl.bH bs s).1))]:=by
 refine Vk Tryz.func221 rfl rfl rfl fun κ _ Je Jc=>?_
 have hm:=Mem.Vq hr
 refine au 28 ?_
 refine cT rfl rfl rfl (mY r e p cap bs s 8 _ (hm.get (k:=0) rfl) (hd.Yu hm.to bO) bO eQ cU qW hlen Ta) fun v w hR=>?_
 obtain ⟨rfl,ae⟩:=hR
 replace hm:=hm.Qv 0 rfl ae
 have hub:=Pl.iR bs s 8
 refine au 10 ?_
 refine cd (fun ao=>?_) fun ao=>?_
 ·
  simp only [bA,bB,bC,bD,bE,bF,dT,dF] at ao
  refine au 6 ?_
  refine cT rfl rfl rfl (q8 r e p bs.length cap (Pl.aJ bs s 8).1 2 s.at_ _ (hm.get (k:=0) rfl)) fun v w hR=>?_
  obtain ⟨rfl,ae⟩:=hR
  replace hm:=hm.Qv 0 rfl ae
  refine au 10 ?_
  have e2:Pl.bH bs s=((Pl.aJ bs s 8).1.fail 2 s.at_,0):=by unfold Pl.bH; rw [LI ao]
  rw [e2]; exact ⟨rfl,hm⟩
 ·
  simp only [bA,bB,bC,bD,bE,bF,dT,dF] at ao
  refine au 5 ?_
  refine Ja rfl rfl (JX rfl is55 it3 (Ql Ta Ta))<|au 5 ?_
  have e2:Pl.bH bs s=Pl.aJ bs s 8:=by unfold Pl.bH; rw [LH ao]
  rw [e2]; exact ⟨rfl,hm⟩
theorem Dm(r e:Nat)(p:Tg)(cap:Nat)(bs:Th)(s:Pl.RS)(q:Tg)(cq:Nat)(ds:Th)(c:Int)(w0:World)(hr:w0.heap[r]?=some (ag.row e (xA p bs.length cap s)).Jd)(hd:Rd w0 p (bs.flatMap Jk))(bO:bs.flatMap Jk≠[]→∀ ad,p=some ad→ad.block≠r)(eQ:bs.length≤cap)(cU:cap≠0→∀ ad,p=some ad→ad.spot=none)(qW:s.at_≤bs.length)(hlen:bs.length≤140737488355328)(Uq:Rd w0 q (ds.flatMap Jk))(hqr:ds.flatMap Jk≠[]→∀ ad,q=some ad→ad.block≠r)(eM:ds.length≤140737488355328)(PS:ds.length≤cq)(Nv:cq≠0→∀ ad,q=some ad→ad.spot=none):C Tryz.prog 220 [.pointer (some ⟨r,0,none⟩),.slice q ds.length cq,.int .i64 c] w0 fun v w'=>v=.bool (Pl.bk bs s ds c).2∧Mem w0 w' (fun k=>k=r) [(r,.row e (xA p bs.length cap (Pl.bk bs s ds c).1))]:=by
 refine Vk Tryz.func220 rfl rfl rfl fun κ _ Je Jc=>?_
 have hm:=Mem.Vq hr
 refine au 21 ?_
 refine cd (fun ai=>?_) fun ai=>?_
 ·
  simp only [bA,bB,bC,bD,bE,bF,dT,dF] at ai
  refine au 8 ?_
  exact ⟨by rw [Pl.jr ai],by rw [Pl.jr ai]; exact hm⟩
 ·
  simp only [bA,bB,bC,bD,bE,bF,dT,dF] at ai
  refine au 4 ?_
  refine dw [0,3,6,9,12,15,18,21,24,27,30,33] hm fun w hw ar hh hm=>?_
  refine au 10 ?_
  refine Ja rfl rfl (JE (ln:=s.at_) (hn:=bs.length) rfl sl22.h ⟨_,rfl⟩ rfl Ta eQ (fun h=>cU Ta))<|au 4 ?_
  have mR:((bs.drop s.at_).take (min ds.length (bs.length-s.at_))).length=min ds.length (bs.length-s.at_):=by rw [Lg,Lm]; omega
  ·
   refine au 8 ?_
   refine Ja rfl rfl (JE (ln:=0) (hn:=min ds.length (bs.length-s.at_)) rfl sl22.h rfl ⟨_,LM (fun x=>some (Value.int .i64 x)) Ta⟩ (LL _) Ta (fun h ad e=>XX (fun _=>cU Ta) (show cap≠s.at_ by omega) e))<|cA rfl rfl rfl (C.eqv (Dl q (bP p cap s.at_ 1) cq (cap-s.at_) ds ((bs.drop s.at_).take (min ds.length (bs.length-s.at_))) _ (Uq.Yu hm.to hqr) ((hd.Yu hm.to bO).sub eQ) PS Nv) (by rw [mR,VR (fun h ad e=>XX (fun _=>cU Ta) (show cap≠s.at_ by omega) e)]; rfl)) hm fun w hm=>au 3 ?_
   refine cd (fun ao=>?_) fun ao=>?_
   ·
    simp only [bE,mR] at ao
    have ja2:ds.take (min ds.length (bs.length-s.at_))≠(bs.drop s.at_).take (min ds.length (bs.length-s.at_)):=fun e=>by rw [LQ e,LQ (Nat.min_le_left _ _)] at ao; cases ao
    refine au 1 ?_
    refine JS (.pure 0 (.pure 1 (.pure 2 (.pure 3 (.pure 4 (.pure 5 (.pure 6 (.pure 7 (.act 8 (.act 9 .done)))))))))) (fun j=>j=r) fP Te hm fun w hw ar hh=>?_
    have hm:=ar
    refine au 8 ?_
    refine bW rfl rfl rfl (Jh rfl sc3.h (hm.nt 0 rfl) rfl) hh<|ca rfl rfl rfl (q8 _ _ _ _ _ s _ _ _ (hm.get (k:=0) rfl)) fun v w hR=>?_
    obtain ⟨rfl,ae⟩:=hR
    refine ⟨hh.Gd ae.to fun _ h=>h,?_⟩
    replace hh:=hh.Gd ae.to fun _ h=>h
    replace hm:=hm.Qv 0 rfl ae
    refine au 10 ?_
    have e2:Pl.bk bs s ds c=(s.fail c s.at_,false):=by unfold Pl.bk; rw [LH ai,LI ja2]
    rw [e2]; exact ⟨rfl,hm⟩
   ·
    simp only [bF,bA,dT,mR] at ao
    refine au 9 ?_
    refine cT rfl rfl rfl (Dk r e p bs.length cap s ds.length _ (hm.get (k:=0) rfl) eQ cU qW hlen Ta) fun v w hR=>?_
    obtain ⟨rfl,ae⟩:=hR
    replace hm:=hm.Qv 0 rfl ae
    refine au 15 ?_
    have e2:Pl.bk bs s ds c=Pl.bI bs.length s ds.length:=by unfold Pl.bk; rw [LH ai,LH (not_not_intro ao.2)]
    rw [e2]; exact ⟨rfl,hm⟩
theorem Kr(p:Tg)(cap:Nat)(bs:Th)(w0:World)(hx:Rd w0 p (bs.flatMap Jk))(hlen:bs.length≤140737488355328):C Tryz.prog 181 [.slice p bs.length cap] w0 fun v w'=>∃ m q c g b,v=.pointer (some ⟨m,0,none⟩)∧Acc 5 1 q bs.length c (bs.flatMap Jk) g b∧Mem w0 w' No [(m,.row 329 (xA q bs.length c ⟨0,0,0⟩)),(g,b)]:=by
 refine aH Tryz.func181 fun κ _ Je Jc hm=>?_
 refine au 8 ?_
 refine cT rfl rfl rfl (V0 p cap bs _ (hx.Jj hm.to) Ta) fun v w hR=>?_
 obtain ⟨aK,aj,aI,aF,rfl,ah,ae⟩:=hR
 have q6:aF.real=true→_:=fun hr=>(ae.fresh _ Lo hr).resolve_left id
 replace hm:=hm.Jt ae
 refine Ja rfl rfl (Qe (cs:=[_,_,_,_]) z327.h ft327.h rfl rfl rfl rfl rfl)<|Ja rfl rfl (Qe (cs:=[_,_,_,_]) z329.h ft329.h rfl rfl rfl rfl rfl)<|bT hm fun m1 w hm=>?_
 refine au 5 ?_
 exact ⟨_,_,_,_,_,rfl,ah,hm⟩
theorem Hb(w0:World):C Tryz.prog 301 [] w0 fun v w'=>v=.agg ⟨gI 16⟩∧Ext No w0 w':=by
 refine aH Tryz.func301 fun κ _ Je Jc hm=>?_
 refine au 2 ?_
 refine aT hm fun m1 w hm=>?_
 refine au 4 ?_
 refine aT hm fun m2 w hm=>?_
 refine au 9 ?_
 refine Jg (ι:=Nat) rfl (ks:=[0,1]) Tn (fun x=>[(4,.int .i64 x)]) (fun x w=>Mem w0 w No [(m2,.row 186 (gI x)),(m1,.row 186 [.int .u32 0,.int .u32 0,.int .u32 0,.int .u32 0,.int .u32 0,.int .u32 0,.int .u32 0,.int .u32 0,.int .u32 0,.int .u32 0,.int .u32 0,.int .u32 0,.int .u32 0,.int .u32 0,.int .u32 0,.int .u32 0])]∧x≤16) (fun x=>16-x) 0 (⟨hm,LL _⟩) Tm (fun x w hM=>?_)
 obtain ⟨hm,hk⟩:=hM
 refine au 6 ?_
 refine cd (fun ai=>?_) fun ai=>?_
 ·
  simp only [dT] at ai
  refine au 13 ?_
  refine Ja rfl rfl (JX rfl is3 it120 (R8 Ta))<|au 10 ?_
  refine Jg (ι:=Nat) rfl (ks:=[0,1,2,4]) Tn (fun y=>[(9,.int .i64 y),(3,.int .u32 ((R9 y (UInt32.ofNat x)).toNat:Int))]) (fun y w=>Mem w0 w No [(m2,.row 186 (gI x)),(m1,.row 186 [.int .u32 0,.int .u32 0,.int .u32 0,.int .u32 0,.int .u32 0,.int .u32 0,.int .u32 0,.int .u32 0,.int .u32 0,.int .u32 0,.int .u32 0,.int .u32 0,.int .u32 0,.int .u32 0,.int .u32 0,.int .u32 0])]∧y≤4) (fun y=>4-y) 0 (⟨hm,LL _⟩) Tm (fun y w hM=>?_)
  obtain ⟨hm,hy⟩:=hM
  refine au 6 ?_
  refine cd (fun ao=>?_) fun ao=>?_
  ·
   simp only [dT] at ao
   refine au 6 ?_
   refine Ja rfl rfl (V1 rfl rfl Tb (Yz 1 rfl Tb))<|au 1 ?_
   refine Ja rfl rfl (VA rfl (cW 1 rfl) my)<|Ja rfl rfl (RA rfl R7)<|Ja rfl rfl (VA (cW 3988292384 rfl) rfl my)<|Ja rfl rfl (Vw rfl rfl XF)<|au 8 ?_
   refine next (y+1) Ta ⟨hm,Ta⟩ ⟨nx y,Tm⟩
  ·
   simp only [dF] at ao
   obtain rfl:y=4:=by omega
   refine au 8 ?_
   refine Ja rfl rfl (JO rfl rfl ar186 Ta Ta)<|Vi rfl rfl rfl rfl sz120 rfl hm 0 rfl (by rw [Nat.ble_eq,Gw]; simp only [LG]; omega) fun w hm=>?_
   have fb:Mem w0 w No [(m2,.row 186 (aU (gI x) (0+((x:Nat):Int).toNat*1) [.int .u32 ((Pl.Yv (UInt32.ofNat x)).toNat:Int)])),(m1,.row 186 [.int .u32 0,.int .u32 0,.int .u32 0,.int .u32 0,.int .u32 0,.int .u32 0,.int .u32 0,.int .u32 0,.int .u32 0,.int .u32 0,.int .u32 0,.int .u32 0,.int .u32 0,.int .u32 0,.int .u32 0,.int .u32 0])]:=hm
   rw [Gx Ta] at fb
   refine au 7 ?_
   refine next (x+1) Ta ⟨fb,Ta⟩ ⟨nx x,Tm⟩
 ·
  simp only [dF] at ai
  obtain rfl:x=16:=by omega
  refine au 7 ?_
  refine Ja rfl rfl (Jm (s:=16) (vs:=[_,_,_,_,_,_,_,_,_,_,_,_,_,_,_,_]) rfl ag186.h (hm.nt 0 rfl) rfl)<|st hm 1 fun w hm=>?_
  refine au 3 ?_
  refine dD (fin Je rfl (.cell rfl (Ju (vs:=[_,_,_,_,_,_,_,_,_,_,_,_,_,_,_,_]) ag186.h (hm.get (k:=1) rfl) rfl) .nil) .one ?_)
  exact ⟨rfl,hm.to⟩
theorem Dn(sum:UInt32)(q:Tg)(cq:Nat)(ps:List SB)(w0:World)(hq:Rd w0 q (ps.flatMap encS))(iC:∀ s∈ps,Rd w0 s.p (s.bs.flatMap Jk))(hl:ps.length≤4611686018427387903)(Z7:∀ s∈ps,s.bs.length≤4611686018427387903):C Tryz.prog 281 [.int .u32 ((sum).toNat:Int),.slice q ps.length cq] w0 fun v w'=>v=.int .u32 ((~~~ (Pl.VY (~~~ sum) (ps.flatMap (·.bs)))).toNat:Int)∧Ext No w0 w':=by
 refine aH Tryz.func281 fun κ _ Je Jc hm=>?_
 refine au 2 ?_
 refine Ja rfl rfl (J4 (cW 0 rfl))<|au 4 ?_
 refine cA rfl rfl rfl (Hb _) hm fun w hm=>aT hm fun m1 w hm=>?_
 refine st hm 0 fun w hm=>?_
 replace hm:Mem w0 w No [(m1,.row 186 (gI 16))]:=hm
 refine au 5 ?_
 refine Ja rfl rfl (IP rfl rfl I1)<|au 12 ?_
 refine Jg (ι:=Nat) rfl (ks:=[4,5,14,15]) Tn (fun x=>[(16,.int .i64 x),(6,.int .u32 (((Pl.VY (~~~ sum) ((ps.take x).flatMap (·.bs)))).toNat:Int))]) (fun x w=>Mem w0 w No [(m1,.row 186 (gI 16))]∧x≤ps.length) (fun x=>ps.length-x) 0 (⟨hm,LL _⟩) Tm (fun x w hM=>?_)
 obtain ⟨hm,hk⟩:=hM
 refine au 6 ?_
 refine cd (fun ai=>?_) fun ai=>?_
 ·
  simp only [dT] at ai
  obtain ⟨s,hi⟩:∃ y_,ps[x]?=some y_:=⟨_,La Ta⟩
  obtain ⟨qb,qo,rfl⟩:=hq.bS V7 Tb hi
  have jn:=Z7 s (Ld hi)
  have fB:(Pl.VY (~~~ sum) ((ps.take (x+1)).flatMap (·.bs)))=Pl.VY (Pl.VY (~~~ sum) ((ps.take x).flatMap (·.bs))) s.bs:=by rw [LC,hi]; simp only [Option.toList,Lh,Lk,LY,Lq,Pl.mw]
  refine au 7 ?_
  refine Ja rfl rfl (J3 rfl sc22.h (hq.Jj hm.to).nt V7 hi rfl)<|au 11 ?_
  refine Jg (ι:=Nat) rfl (ks:=[4,5,14,15,16,20,21]) Tn (fun y=>[(22,.int .i64 y),(6,.int .u32 ((Pl.VY (Pl.VY (~~~ sum) ((ps.take x).flatMap (·.bs))) (s.bs.take y)).toNat:Int))]) (fun y w=>Mem w0 w No [(m1,.row 186 (gI 16))]∧y≤s.bs.length) (fun y=>s.bs.length-y) 0 (⟨hm,LL _⟩) Tm (fun y w hM=>?_)
  obtain ⟨hm,hy⟩:=hM
  refine au 6 ?_
  refine cd (fun ao=>?_) fun ao=>?_
  ·
   simp only [dT] at ao
   obtain ⟨c,hj⟩:∃ y_,s.bs[y]?=some y_:=⟨_,La Ta⟩
   obtain ⟨b2,o2,nO⟩:=(iC s (Ld hi)).bS JG Tb hj
   refine au 6 ?_
   refine Ja rfl rfl (Qy rfl rfl sl22.h nO Ta Ta)<|Ja rfl rfl (J3 rfl sc5.h (nO▸(iC s (Ld hi)).Jj hm.to).nt JG hj rfl)<|au 7 ?_
   refine Ja rfl rfl (JX rfl is5 it120 th)<|Ja rfl rfl (Vw rfl rfl XF)<|au 6 ?_
   refine Ja rfl rfl (V1 rfl rfl Tb (Yz 4 rfl Tb))<|au 1 ?_
   refine Ja rfl rfl (VA rfl (cW 15 rfl) my)<|Ja rfl rfl (JO rfl rfl ar186 (Int.natCast_nonneg _) (by rw [Pl.td]; omega))<|Ja rfl rfl (Jh rfl sc120.h (hm.nt 0 rfl) (xM _ (by rw [Pl.td]; omega)))<|Ja rfl rfl (Vw rfl rfl XF)<|au 5 ?_
   refine Ja rfl rfl (V1 rfl rfl Tb (Yz 4 rfl Tb))<|au 1 ?_
   refine Ja rfl rfl (VA rfl (cW 15 rfl) my)<|Ja rfl rfl (JO rfl rfl ar186 (Int.natCast_nonneg _) (by rw [Pl.td]; omega))<|Ja rfl rfl (Jh rfl sc120.h (hm.nt 0 rfl) (xM _ (by rw [Pl.td]; omega)))<|Ja rfl rfl (Vw rfl rfl XF)<|au 8 ?_
   refine next (y+1) Ta ⟨hm,Ta⟩ ⟨nx y,by rw [tk hj,← Cv]; rfl,Tm⟩
  ·
   simp only [dF] at ao
   have Ad:s.bs.take y=s.bs:=LZ Ta
   rw [← Ad] at fB
   refine au 10 ?_
   refine next (x+1) Ta ⟨hm,Ta⟩ ⟨nx x,by rw [fB,Ad]; rfl,Tm⟩
 ·
  simp only [dF] at ai
  obtain rfl:x=ps.length:=by omega
  refine au 8 ?_
  refine Ja rfl rfl (IP rfl rfl I1)<|au 5 ?_
  exact ⟨by rw [Lv],hm.to⟩
theorem Ur(q:Tg)(cq:Nat)(ps:List SB)(w0:World)(hq:Rd w0 q (ps.flatMap encS))(iC:∀ s∈ps,Rd w0 s.p (s.bs.flatMap Jk))(hl:ps.length≤4611686018427387903)(Z7:∀ s∈ps,s.bs.length≤4611686018427387903):C Tryz.prog 257 [.slice q ps.length cq] w0 fun v w'=>v=.int .u32 ((Pl.qI (ps.flatMap (·.bs))).toNat:Int)∧Ext No w0 w':=by
 refine aH Tryz.func257 fun κ _ Je Jc hm=>?_
 refine au 2 ?_
 refine Ja rfl rfl (J4 (cW 0 rfl))<|au 5 ?_
 refine lh rfl rfl (J8 (cW 0 rfl) (J8 rfl QL)) go281 (Dn 0 q cq ps _ (hq.Jj hm.to) (fun s hs=>(iC s hs).Jj hm.to) hl Z7) fun v w hR=>?_
 obtain ⟨rfl,hE⟩:=hR
 refine ⟨trivial,?_⟩
 replace hm:=hm.ext hE
 refine au 5 ?_
 exact ⟨rfl,hm.to⟩
theorem Nw(p:Tg)(cap:Nat)(bs:Th)(w0:World)(hx:Rd w0 p (bs.flatMap Jk))(hle:bs.length≤cap)(cU:cap≠0→∀ ad,p=some ad→ad.spot=none)(hl:bs.length≤70368744177664):C Tryz.prog 286 [.slice p bs.length cap] w0 fun v w'=>∃ q c g b,v=.slice q (bs++Pl.tf (Pl.qI bs)).length c∧Acc 5 1 q (bs++Pl.tf (Pl.qI bs)).length c ((bs++Pl.tf (Pl.qI bs)).flatMap Jk) g b∧Mem w0 w' No [(g,b)]:=by
 refine aH Tryz.func286 fun κ _ Je Jc hm=>?_
 refine au 8 ?_
 refine Jb (l:=[_]) rfl rfl sl88.h z22.h rfl rfl rfl rfl rfl rfl rfl hm trivial fun m1 w c5 hm hh=>cA rfl rfl rfl (C.as (v:=.int .u32 ((Pl.qI bs).toNat:Int)) (Ur _ 1 [⟨p,cap,bs⟩] _ (Rd.JL (hm.get (k:=0) rfl)) (by simp only [Lf]; rintro _ rfl; exact hx.Jj hm.to) Tc (by simp only [Lf]; rintro _ rfl; simp only; omega)) (by simp only [Lk,LY,Lq])) hm fun w hm=>au 10 ?_
 refine Ja rfl rfl (tp rfl sl22.h rfl rfl (LP _) hle)<|au 1 ?_
 refine Ja rfl rfl (JX rfl is120 it5 zF)<|au 1 ?_
 refine Ja rfl rfl (V1 rfl rfl Tb (Yz 8 rfl Tb))<|Ja rfl rfl (JX rfl is120 it5 zF)<|au 1 ?_
 refine Ja rfl rfl (V1 rfl rfl Tb (Yz 16 rfl Tb))<|Ja rfl rfl (JX rfl is120 it5 zF)<|au 1 ?_
 refine Ja rfl rfl (V1 rfl rfl Tb (Yz 24 rfl Tb))<|Ja rfl rfl (JX rfl is120 it5 zF)<|Jb (l:=[_,_,_,_]) rfl rfl sl22.h z5.h rfl rfl rfl rfl rfl rfl rfl hm trivial fun m2 w bo hm hh=>pt rfl rfl rfl rfl rfl rfl sl22.h sl22.h z5.h rfl (Rd.JL (hm.get (k:=0) rfl)) rfl (hx.Jj hm.to) (J0 bs) Ta hm Ta Ta fun aj aI aF w ah hm=>au 5 ?_
 exact ⟨_,aj,aI,aF,by rw [Lc]; rfl,by rw [Lc]; exact ah.to (by simp only [Lh]; rfl),(hm.pick [0] rfl)⟩
theorem Dp(p:Tg)(cap:Nat)(bs:Th)(w0:World)(hx:Rd w0 p (bs.flatMap Jk))(hle:bs.length≤cap)(cU:cap≠0→∀ ad,p=some ad→ad.spot=none)(hl:bs.length≤70368744177664):C Tryz.prog 223 [.slice p bs.length cap] w0 fun v w'=>∃ q c g b,v=.tuple ⟨[.slice q (if (decide (4≤bs.length)&&decide ((bs.drop (bs.length-4))=Pl.tf (Pl.qI (bs.take (bs.length-4)))))=true then (bs.take (bs.length-4)) else []).length c,.bool (decide (4≤bs.length)&&decide ((bs.drop (bs.length-4))=Pl.tf (Pl.qI (bs.take (bs.length-4)))))]⟩∧Acc 5 1 q (if (decide (4≤bs.length)&&decide ((bs.drop (bs.length-4))=Pl.tf (Pl.qI (bs.take (bs.length-4)))))=true then (bs.take (bs.length-4)) else []).length c ((if (decide (4≤bs.length)&&decide ((bs.drop (bs.length-4))=Pl.tf (Pl.qI (bs.take (bs.length-4)))))=true then (bs.take (bs.length-4)) else []).flatMap Jk) g b∧Mem w0 w' No [(g,b)]:=by
 refine aH Tryz.func223 fun κ _ Je Jc hm=>?_
 refine au 21 ?_
 refine cd (fun ai=>?_) fun ai=>?_
 ·
  simp only [dT] at ai
  have ub:(decide (4≤bs.length)&&decide ((bs.drop (bs.length-4))=Pl.tf (Pl.qI (bs.take (bs.length-4)))))=false:=by rw [LN Ta]; rfl
  refine au 9 ?_
  exact ⟨none,0,0,.gap,by rw [ub]; rfl,by rw [ub]; exact .nil _ _ _ _,(hm.drop (List.nil_sublist _)).JP⟩
 ·
  simp only [dF] at ai
  have IW:(bs.take (bs.length-4)).length=bs.length-4:=by rw [Lg]; omega
  have eM:(bs.drop (bs.length-4)).length=4:=by rw [Lm]; omega
  refine au 6 ?_
  refine Ja rfl rfl (cy (JE (ln:=0) (hn:=(bs.length-4)) rfl sl22.h rfl ⟨_,LM (fun x=>some (Value.int .i64 x)) Ta⟩ Ta Ta (fun h=>cU Ta)) (show _=Value.slice (bP p cap 0 1) (bs.take (bs.length-4)).length cap by rw [IW,Nat.sub_zero,Nat.sub_zero]))<|Jb (l:=[_]) rfl rfl sl88.h z22.h rfl rfl rfl rfl rfl rfl rfl hm trivial fun m1 w c5 hm hh=>cA rfl rfl rfl (C.as (v:=.int .u32 ((Pl.qI (bs.take (bs.length-4))).toNat:Int)) (Ur _ 1 [⟨(bP p cap 0 1),cap,(bs.take (bs.length-4))⟩] _ (Rd.JL (hm.get (k:=0) rfl)) (by simp only [Lf]; rintro _ rfl; exact (hx.Jj hm.to).tn hle) Tc (by simp only [Lf]; rintro _ rfl; simp only; omega)) (by simp only [Lk,LY,Lq])) hm fun w hm=>au 8 ?_
  refine Ja rfl rfl (cy (JE (ln:=(bs.length-4)) (hn:=bs.length) rfl sl22.h ⟨_,LM (fun x=>some (Value.int .i64 x)) Ta⟩ rfl Ta hle (fun h=>cU Ta)) (show _=Value.slice (bP p cap (bs.length-4) 1) (bs.drop (bs.length-4)).length (cap-(bs.length-4)) by rw [eM]; congr 1; omega))<|au 5 ?_
  refine Jg (ι:=Nat) rfl (ks:=[0,4,5,20,21]) Tn (fun x=>[(22,.int .i64 x)]) (fun x w=>Mem w0 w No []∧x≤4∧∀ j,j<x→(bs.drop (bs.length-4))[j]?=(Pl.tf (Pl.qI (bs.take (bs.length-4))))[j]?) (fun x=>4-x) 0 (⟨(hm.pick [] rfl),LL _,fun _ h=>absurd h (Nat.not_lt_zero _)⟩) Tm (fun x w hM=>?_)
  obtain ⟨hm,hk,cz⟩:=hM
  refine au 6 ?_
  refine cd (fun ao=>?_) fun ao=>?_
  ·
   simp only [dT] at ao
   obtain ⟨c,hi⟩:∃ y_,(bs.drop (bs.length-4))[x]?=some y_:=⟨_,La Ta⟩
   obtain ⟨b2,o2,nO⟩:=(hx.mz hle).bS JG Tb hi
   refine au 7 ?_
   refine Ja rfl rfl (Qy rfl rfl sl22.h nO Ta Ta)<|Ja rfl rfl (J3 rfl sc5.h (nO▸(hx.Jj hm.to).mz hle).nt JG hi rfl)<|au 10 ?_
   refine Ja rfl rfl (V1 rfl rfl Ta (Yz (UInt32.ofNat (8*x)) (by rw [UInt32.toNat_ofNat']; omega) (by rw [UInt32.toNat_ofNat']; omega)))<|Ja rfl rfl (JX rfl is120 it5 zF)<|au 3 ?_
   refine cd (fun aD=>?_) fun aD=>?_
   ·
    simp only [dT] at aD
    have ub:(decide (4≤bs.length)&&decide ((bs.drop (bs.length-4))=Pl.tf (Pl.qI (bs.take (bs.length-4)))))=false:=by simp only [bC,dF]; exact .inr fun e=>aD (by have h9:=LM (fun l=>l[x]?) e; simp only [hi,xN (show x<4 by omega)] at h9; rw [Option.some.inj h9])
    refine au 13 ?_
    exact ⟨none,0,0,.gap,by rw [ub]; rfl,by rw [ub]; exact .nil _ _ _ _,(hm.drop (List.nil_sublist _)).JP⟩
   ·
    simp only [dF,Decidable.not_not] at aD
    have ko:c=(Pl.qI (bs.take (bs.length-4)) >>> UInt32.ofNat (8*x)).toUInt8:=UInt8.toNat_inj.1 Ta
    refine au 7 ?_
    refine next (x+1) Ta ⟨hm,Ta,fun j hj=>?_⟩ ⟨nx x,Tm⟩
    rcases L7 j x with h | h
    · exact cz j h
    · obtain rfl:j=x:=by omega
      rw [hi,xN Ta]; exact LM some ko
  ·
   simp only [dF] at ao
   obtain rfl:x=4:=by omega
   have ub:(decide (4≤bs.length)&&decide ((bs.drop (bs.length-4))=Pl.tf (Pl.qI (bs.take (bs.length-4)))))=true:=by rw [LQ Ta,LQ (Pl.IY (by rw [eM]; rfl) (by rw [eM]; exact cz))]; rfl
   refine au 9 ?_
   refine Ja rfl rfl (cy (JE (ln:=0) (hn:=(bs.length-4)) rfl sl22.h rfl ⟨_,LM (fun x=>some (Value.int .i64 x)) Ta⟩ Ta Ta (fun h=>cU Ta)) (show _=Value.slice (bP p cap 0 1) (bs.take (bs.length-4)).length cap by rw [IW,Nat.sub_zero,Nat.sub_zero])) ?_
   replace hm:=hm.JP
   refine Jy rfl rfl rfl rfl rfl rfl sl22.h sl22.h z5.h rfl (Zl _) ((hx.Jj hm.to).tn hle) (J0 _) (Acc.nil 5 1 none 0) hm 0 rfl Ta Ta fun aK aj aI aF w ah hm=>au 6 ?_
   exact ⟨aK,aj,aI,aF,by rw [ub,LI rfl,LV],by rw [ub,LI rfl]; simpa only [LV,L4] using ah,(hm.pick [0] rfl)⟩
end Go.Proofs.YtaehgpeenaomcaaGreat
