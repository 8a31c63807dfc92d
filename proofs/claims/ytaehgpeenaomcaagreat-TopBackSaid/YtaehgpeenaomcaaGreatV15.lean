/- Part 16 of the proof of TopBack: Row RowD RowT. Conditions: the hypotheses of each theorem. -/
import Derived.Test.YtaehgpeenaomcaaGreatV14
import Derived.WideKeyArgs
import Derived.Deep.Slices
import Derived.RowKit
import Derived.Lib.SmallJoins
import Derived.SizedLaws
import Derived.Test.YtaehgpeenaomcaaGreatRows
set_option maxRecDepth 10000
set_option maxHeartbeats 4000000
set_option linter.unusedVariables false
set_option linter.unusedSimpArgs false
namespace Go.Row
open Go Go.Cx Go.ChangeShapes Go.WideShapes Go.RowKit
section
variable {H:Type}{enc:TypeId×Value→H}{P:Program}{W W':World}
def readable(P:Program)(ts:List TypeId):Bool:=ts.all fun t=>P.readableRec t&&decide (t<P.types.size)
theorem stays(hl:laidOutB P=true){sp:Nat→Bool}:∀ {ts:List TypeId} {vs:Ti} {ds:List (DataW H)} {ps:List MemPlace},readable P ts=true→DataW.TrodAll enc P W 0 (fun _=>true) true ts vs ds ps →
 (∀ p∈ps,W.sameAt W' p)→(∀ p∈ps,sp p.block=true)→DataW.TrodAll enc P W' 0 sp true ts vs ds ps
 | [],vs,ds,ps,_,h,_,_=>by
  obtain ⟨rfl,rfl,rfl⟩:=trodAll_nil h
  exact rfl
 | t::ts,vs,ds,ps,hr,h,hs,hb=>by
  obtain ⟨v,ZU,d,ds',p,q,rfl,rfl,rfl,h1,h2⟩:=trodAll_cons h
  simp only [readable,List.all_cons,LJ,LO] at hr
  exact ⟨p,q,WideElems.Trod_stays hl hr.1.1 hr.1.2 h1 (fun x hx=>hs x (Lw _ hx)) (fun x hx=>hb x (Lw _ hx)),
   stays hl (by simpa [readable] using hr.2) h2 (fun x hx=>hs x (Ly _ hx)) (fun x hx=>hb x (Ly _ hx)),rfl⟩
theorem sameAt(h:Ext No W W'){p:MemPlace}(hp:p.block<W.heap.size):W.sameAt W' p:=by
 cases p with
 | cell b off=>exact oL (a:=⟨b,off,none⟩) (h.same b hp id)
 | map b=>exact h.same b hp id
theorem kept(h:Ext No W W')(may:MemPlace→Prop):W.keptBut W' may:=by
 refine ⟨h.os,h.output,fun i hi=>?_⟩
 rw [h.same i hi id,Array.getElem?_eq_getElem hi]
 cases W.heap[i] <;> simp
theorem Rj{f:Func}{s:ChangeSpec}{apart fresh handsOn:Bool}{args:Array Value}{ds gs:List (DataW H)}{before:List MemPlace}{b:TypeId}
 (hl:laidOutB P=true) (hr:readable P f.params.toList=true) (hv:s.vars=[]) (hb:f.resultTypes=#[b]) (hu:P.underlying b=some .bool)
 (hW:DataW.Whole enc P f.params.toList s.vars apart W args.toList ds gs before) (hf:s.fn H (ds++gs)={ results:=[.lit (.bool true)],args:=ds,vars:=[] }) (hx:Ext No W W') :
 s.post enc P f apart fresh handsOn false W args (.bool true) W':=by
 have aX:=fun p hp=>hW.lt p hp
 have zc:=hW
 obtain ⟨p,q,hA,hV,hpq,hz,hn⟩:=hW
 rw [hv] at hV
 obtain ⟨rfl,rfl⟩:=trodVars_none hV
 rw [Lq] at hpq
 subst hpq
 refine ⟨ds,[],before,[],before,[],zc,?_,?_,?_,kept hx _,nofun⟩
 · rw [hf,hb]
   exact trodAll_mk1 (shut_bool hu _)
 · rw [hf]
   exact stays hl hr hA (fun p hp=>sameAt hx (aX p hp)) (fun p hp=>by simpa using aX p hp)
 · rw [hf,hv]
   exact rfl
theorem wf_i64{n:Int}(h:(Lit.int .i64 n).wf=true):Pl.aA n:=by
 simpa [Lit.wf,IntKind.min,IntKind.max,IntKind.signed,IntKind.bits] using h
def Py(P:Program)(t:TypeId):Option (List TypeId):=match P.underlying t with
 | some (.struct fs)=>if (Go.Deep.oneCellFields P fs&&P.cellsOf t==fs.size)=true then some (fs.toList.map (·.type)) else none
 | _=>none
def Zm(P:Program)(t:TypeId):Option IntKind:=match P.underlying t with | some (.int k)=>some k | _=>none
theorem qd{t:TypeId}{k:IntKind}(h:Zm P t=some k):P.underlying t=some (.int k):=by
 unfold Zm at h
 cases hu:P.underlying t with
 | none=>simp [hu] at h
 | some d=>cases d <;> simp_all
variable {base:Nat}{spare:Nat→Bool}{held:Bool}
theorem Bd{t:TypeId}{ts:List TypeId}(h:Py P t=some ts){n:Nat}{cs:Ti}{x:DataW H×List MemPlace}(hx:DataW.trod enc P W base spare held n t cs=some x) :
 cs.length=ts.length∧∃ (ys:List (DataW H×List MemPlace)) (m:Nat),x=(.agg (ys.map (·.1)),ys.flatMap (·.2))∧ys.length=ts.length∧∀ (i:Nat) (ti:TypeId),ts[i]?=some ti→∃ v y,cs[i]?=some v∧ys[i]?=some y∧DataW.trod enc P W base spare held m ti [v]=some y:=by
 unfold Py at h
 split at h
 · rename_i fs hu
   split at h
   · rename_i hc
     cases h
     simp only [LJ,beq_iff_eq] at hc
     obtain ⟨ys,m,rfl,hxx,hl,fz,hf⟩:=DataW.trod_struct hu hx
     refine ⟨by rw [hl,hc.2]; simp,ys,m,hxx,by rw [fz]; simp,fun i ti MS=>?_⟩
     rw [Lt] at MS
     cases F6:fs.toList[i]? with
     | none=>rw [F6] at MS; simp at MS
     | some f=>
      rw [F6] at MS
      cases MS
      have Pz:fs[i]?=some f:=by simpa using F6
      have aX:i<fs.size:=(Lb.1 Pz).1
      obtain ⟨h1,h2⟩:=Go.Deep.hone_of hc.1 i f Pz
      have h3:=hf i f Pz
      rw [h1,h2] at h3
      have bL:i<cs.length:=by rw [hl,hc.2]; exact aX
      have hyi:i<ys.length:=by rw [fz]; exact aX
      have h4:(cs.drop i).take 1=[cs[i]]:=by rw [List.drop_eq_getElem_cons bL]; rfl
      rw [h4] at h3
      exact ⟨cs[i],ys[i],La bL,La hyi,by rw [h3]; exact La hyi⟩
   · cases h
 · cases h
theorem Xo{t:TypeId}{k:IntKind}(h:Zm P t=some k){n:Nat}{v:Value}{y:DataW H×List MemPlace}(hx:DataW.trod enc P W base spare held n t [v]=some y):∃ a,v=.int k a∧(Lit.int k a).wf=true∧y=(.lit (.int k a),[]):=by
 obtain ⟨a,h1,h2,h3⟩:=DataW.trod_int (qd h) hx
 simp only [List.cons.injEq,and_true] at h1
 exact ⟨a,h1,h3,h2⟩
theorem vl{α:Type}(jl:α→Ti){es:Nat}{t e:TypeId}{Q:α→Prop}(ht:P.underlying t=some (.slice e))(hc:P.cellsOf e=es)
 (ya:∀ (n:Nat) (cs:Ti) (y:DataW H×List MemPlace),cs.length=es→DataW.trod enc P W base spare held n e cs=some y→∃ x,cs=jl x∧Q x)
 {n:Nat} {v:Value} {y:DataW H×List MemPlace} (hx:DataW.trod enc P W base spare held n t [v]=some y):∃ (p:Tg) (cap:Nat) (xs:List α),v=.slice p xs.length cap∧Rd W p (xs.flatMap jl)∧(∀ x,x∈xs→Q x)∧xs.length≤cap∧cap≤9223372036854775807∧(spare=(fun _=>true)→0<es→cap≠0→∀ ad,p=some ad→ad.spot=none):=by
 rcases Go.Deep.open_slice ht hx with ⟨h1,_⟩ | ⟨a,len,cap,m,n',D,Pl,h1,_,Gh,lQ,hm,_,hi⟩
 · simp only [List.cons.injEq,and_true] at h1
   subst h1
   exact ⟨none,0,[],rfl,rfl,Tc,Tc,Ta,Tc⟩
 · simp only [List.cons.injEq,and_true] at h1
   subst h1
   have hlm:len≤m:=by rw [hm]; split <;> omega
   have vn:∀ i,i<len→∃ x,(∀ j v,(jl x)[j]?=some v→W.cell? ((a.add (i*es)).add j)=some v)∧(jl x).length=es∧Q x:=fun i KA=>by
    obtain ⟨FB,h2,h3⟩:=hi i Ta
    rw [hc] at h2
    obtain ⟨_,h4,h5⟩:=World.cells?_some h2
    obtain ⟨x,rfl,hq⟩:=ya _ _ _ h4 h3
    exact ⟨x,fun j v hj=>by rw [h5 j (by rw [← h4]; exact (Le.1 hj).1)]; exact hj,h4,hq⟩
   have xo:∀ k,k≤len→∃ xs:List α,xs.length=k∧(∀ i x,xs[i]?=some x→(∀ j v,(jl x)[j]?=some v→W.cell? ((a.add (i*es)).add j)=some v)∧(jl x).length=es∧Q x):=fun k=>by
    induction k with
    | zero=>exact fun _=>⟨[],rfl,Tc⟩
    | succ k ih=>
     intro hk
     obtain ⟨xs,h2,h3⟩:=ih Ta
     obtain ⟨x,hx⟩:=vn k Ta
     refine ⟨xs++[x],by simp [h2],fun i z hz=>?_⟩
     rw [List.getElem?_append] at hz
     split at hz
     · exact h3 i z hz
     · rename_i hni
       have:i=k:=by have:=(Le.1 hz).1; simp at this; omega
       subst this
       rw [h2,Nat.sub_self] at hz
       simp at hz
       subst hz
       exact hx
   obtain ⟨xs,h2,h3⟩:=xo len (LP _)
   have yZ:∀ x,x∈xs→(jl x).length=es:=fun x hx=>by
    obtain ⟨i,hi,e⟩:=LU hx
    exact (h3 i x (by rw [← e]; exact La hi)).2.1
   have hk:∀ (m j:Nat) (v:Value),W.cell? ((a.add m).add j)=some v→W.cell? ⟨a.block,a.off+(m+j),none⟩=some v:=fun m j v h=>by
    have hs:=World.cell?_spot h
    obtain ⟨b,o,s⟩:=a
    by_cases hm:m=0 <;> by_cases hj:j=0 <;> simp_all [Addr.add,Nat.add_assoc]
   have dO:∀ (l:List α) (j:Nat) (v:Value),(∀ x,x∈l→(jl x).length=es)→(l.flatMap jl)[j]?=some v→∃ i x j',l[i]?=some x∧(jl x)[j']?=some v∧j=i*es+j':=fun l=>by
    induction l with
    | nil=>intro j v _ h; simp at h
    | cons z r ih=>
     intro j v hl h
     simp only [Lk] at h
     have hz:=hl z Tc
     rw [List.getElem?_append] at h
     split at h
     · exact ⟨0,z,j,rfl,h,Tc⟩
     · rename_i hnj
       obtain ⟨i,x,j',h4,h5,h6⟩:=ih _ v (fun x hx=>hl x (by simp [hx])) h
       exact ⟨i+1,x,j',by simpa using h4,h5,by rw [Nat.succ_mul]; omega⟩
   have uK:∀ (j:Nat) (v:Value),(xs.flatMap jl)[j]?=some v→W.cell? ⟨a.block,a.off+j,none⟩=some v:=fun j v hj=>by
    obtain ⟨i,x,j',h4,h5,h6⟩:=dO xs j v yZ hj
    rw [h6]
    exact hk _ _ v ((h3 i x h4).1 j' v h5)
   refine ⟨some a,cap,xs,by rw [h2],⟨fun bO=>?_,fun j v hj=>uK j v hj⟩,fun x hx=>?_,by rw [h2]; exact Gh,by simpa [maxLen] using lQ,fun cU FI ai ad e=>?_⟩
   rotate_right
   · cases e
     have ae:m=cap:=by rw [hm,cU]; rfl
     obtain ⟨FB,h6,_⟩:=hi 0 Ta
     rw [hc,Nat.zero_mul] at h6
     obtain ⟨_,h7,h8⟩:=World.cells?_some h6
     have h9:=h8 0 FI
     rw [La Ta] at h9
     have h10:=World.cell?_spot h9
     simpa [Addr.add] using h10
   · cases ef:xs.flatMap jl with
     | nil=>exact absurd ef bO
     | cons v r=>
      obtain ⟨i,x,j',h4,h5,_⟩:=dO xs 0 v yZ (by rw [ef]; rfl)
      have FI:0<es:=by
       have:=yZ x (Ld h4)
       have:=(Le.1 h5).1
       omega
      obtain ⟨x0,h6⟩:∃ x0,xs[0]?=some x0:=⟨_,La (by have:=(Le.1 h4).1; omega)⟩
      obtain ⟨v0,h7⟩:∃ v0,(jl x0)[0]?=some v0:=⟨_,La (by rw [yZ x0 (Ld h6)]; exact FI)⟩
      have h8:=(h3 0 x0 h6).1 0 v0 h7
      simpa [Addr.add] using World.cell?_spot h8
   · obtain ⟨i,hi,e⟩:=LU hx
     exact (h3 i x (by rw [← e]; exact La hi)).2.2
theorem jci{t:TypeId}{k:IntKind}{r:Reach}{b0:Nat}{v:Value}{d:DataW H}{p:List MemPlace}(h:Zm P t=some k)(hv:Value.okWide P W r b0 t v)(hd:DataW.Trod enc P W base spare held t v d p):∃ a,v=.int k a∧(Lit.int k a).wf=true:=by
 obtain ⟨n,h1,_,_,h4⟩:=ChangeShapes.open_int (qd h) hv hd
 exact ⟨n,h1,h4⟩
def slI(P:Program)(t:TypeId)(k:IntKind):Bool:=match P.underlying t with
 | some (.slice e)=>P.cellsOf e==1&&Zm P e==some k
 | _=>false
end
section
variable {H:Type}{enc:TypeId×Value→H}{P:Program}{W W':World}{base:Nat}{held:Bool}
theorem wf_u8{n:Int}(h:(Lit.int .u8 n).wf=true):0≤n∧n≤255:=by
 simpa [Lit.wf,IntKind.min,IntKind.max,IntKind.signed,IntKind.bits] using h
theorem y5{t:TypeId}(h:slI P t .u8=true){n:Nat}{v:Value}{y:DataW H×List MemPlace}(hx:DataW.trod enc P W base (fun _=>true) held n t [v]=some y):∃ s:SB,v=.slice s.p s.bs.length s.cap∧s.ok W:=by
 unfold slI at h
 split at h
 · rename_i e hu
   simp only [LJ,beq_iff_eq] at h
   obtain ⟨p,cap,xs,h1,h2,_,h4,h5,h6⟩:=vl (Q:=fun _:UInt8=>True) Jk hu h.1 (fun n cs y hl hx=>by
    match cs,hl with
    | [c],_=>
     obtain ⟨a,rfl,hw,_⟩:=Xo h.2 hx
     have:=wf_u8 hw
     refine ⟨UInt8.ofNat a.toNat,?_,trivial⟩
     have e1:(UInt8.ofNat a.toNat).toNat=a.toNat:=by rw [UInt8.toNat_ofNat']; omega
     simp only [Jk,e1]
     congr 2
     omega) hx
   exact ⟨⟨p,cap,xs⟩,h1,h2,h4,h6 rfl Tb,h5⟩
 · cases h
def PA(P:Program)(t:TypeId):Bool:=match Py P t with
 | some [a0,a1,a2,a3,a4]=>Zm P a0==some .i64&&Zm P a1==some .i64&&Zm P a2==some .i64&&Zm P a3==some .i64&&slI P a4 .u8
 | _=>false
theorem Fo{t:TypeId}(h:PA P t=true){n:Nat}{cs:Ti}{y:DataW H×List MemPlace}(hx:DataW.trod enc P W base (fun _=>true) held n t cs=some y):∃ c:aa,cs=JM c∧fE W c:=by
 unfold PA at h
 split at h
 · rename_i a0 a1 a2 a3 a4 ho
   simp only [LJ,beq_iff_eq] at h
   obtain ⟨hl,ys,m,_,_,hi⟩:=Bd ho hx
   match cs,hl with
   | [c0,c1,c2,c3,c4],_=>
    obtain ⟨v0,y0,ai,_,NK⟩:=hi 0 a0 rfl
    obtain ⟨v1,y1,ao,_,ht1⟩:=hi 1 a1 rfl
    obtain ⟨v2,y2,aD,_,I'⟩:=hi 2 a2 rfl
    obtain ⟨v3,y3,bg,_,ht3⟩:=hi 3 a3 rfl
    obtain ⟨v4,y4,jG,_,ht4⟩:=hi 4 a4 rfl
    obtain ⟨x0,rfl,Ul,_⟩:=Xo h.1.1.1.1 NK
    obtain ⟨x1,rfl,fS,_⟩:=Xo h.1.1.1.2 ht1
    obtain ⟨x2,rfl,F2,_⟩:=Xo h.1.1.2 I'
    obtain ⟨x3,rfl,hw3,_⟩:=Xo h.1.2 ht3
    obtain ⟨s,rfl,hs⟩:=y5 h.2 ht4
    simp at ai ao aD bg jG
    subst ai ao aD bg jG
    exact ⟨⟨x0,x1,x2,x3,s⟩,rfl,wf_i64 Ul,wf_i64 fS,wf_i64 F2,wf_i64 hw3,hs⟩
 · cases h
def slC(P:Program)(t:TypeId):Bool:=match P.underlying t with
 | some (.slice e)=>P.cellsOf e==5&&PA P e
 | _=>false
def IK(P:Program)(t:TypeId)(m:Nat):Bool:=match P.underlying t with
 | some (.array k e)=>decide (k=m)&&P.cellsOf e==1&&P.cellsOf t==m&&Zm P e==some .u8
 | _=>false
theorem IL{e:TypeId}(h:Zm P e=some .u8){n:Nat}{c:Value}{y:DataW H×List MemPlace}(hx:DataW.trod enc P W base (fun _=>true) held n e [c]=some y):∃ b:UInt8,c=.int .u8 b.toNat:=by
 obtain ⟨a,rfl,hw,_⟩:=Xo h hx
 have:=wf_u8 hw
 refine ⟨UInt8.ofNat a.toNat,?_⟩
 have e1:(UInt8.ofNat a.toNat).toNat=a.toNat:=by rw [UInt8.toNat_ofNat']; omega
 rw [e1]
 congr 1
 omega
theorem y6{t:TypeId}{m:Nat}(h:IK P t m=true){n:Nat}{cs:Ti}{y:DataW H×List MemPlace}(hx:DataW.trod enc P W base (fun _=>true) held n t cs=some y):∃ bs:Th,cs=bs.flatMap Jk∧bs.length=m:=by
 unfold IK at h
 split at h
 · rename_i k e hu
   simp only [LJ,beq_iff_eq,LO] at h
   obtain ⟨⟨⟨rfl,h1⟩,h2⟩,h3⟩:=h
   obtain ⟨xs,f,_,_,hl,rZ,hi⟩:=DataW.trod_array hu hx
   rw [h2] at hl
   have hc:∀ (ds:Ti),(∀ (i:Nat) (c:Value),ds[i]?=some c→∃ b:UInt8,c=.int .u8 b.toNat)→∃ bs:Th,ds=bs.flatMap Jk∧bs.length=ds.length:=fun ds=>by
    induction ds with
    | nil=>intro _; exact ⟨[],rfl,rfl⟩
    | cons d r ih=>
     intro hd
     obtain ⟨b,rfl⟩:=hd 0 d rfl
     obtain ⟨bs,h4,h5⟩:=ih fun i c hc=>hd (i+1) c (by simpa using hc)
     exact ⟨b::bs,by rw [Lk,← h4]; rfl,by simp [h5]⟩
   obtain ⟨bs,h4,h5⟩:=hc cs fun i c yc=>by
    have aX:i<cs.length:=(Le.1 yc).1
    have h6:=hi i Ta
    rw [h1,Nat.mul_one,List.drop_eq_getElem_cons aX,La Ta] at h6
    have h7:cs[i]=c:=by rw [La aX] at yc; exact Option.some.inj yc
    rw [h7] at h6
    exact IL h3 h6
   exact ⟨bs,h4,Ta⟩
 · cases h
end
section
variable {H:Type}{enc:TypeId×Value→H}{P:Program}{W W':World}{base:Nat}{held:Bool}
inductive FK where
 | n (k:IntKind)
 | b
end
end Go.Row
namespace Go.Row
open Go Go.Cx Go.ChangeShapes Go.WideShapes Go.RowKit
variable {H:Type}{enc:TypeId×Value→H}{P:Program}{W:World}{base:Nat}{held:Bool}
theorem b32{bs:Th}(h:bs.length=32):bs.flatMap Jk=[.int .u8 ((bs.getD 0 0).toNat:Int),.int .u8 ((bs.getD 1 0).toNat:Int),.int .u8 ((bs.getD 2 0).toNat:Int),.int .u8 ((bs.getD 3 0).toNat:Int),.int .u8 ((bs.getD 4 0).toNat:Int),.int .u8 ((bs.getD 5 0).toNat:Int),.int .u8 ((bs.getD 6 0).toNat:Int),.int .u8 ((bs.getD 7 0).toNat:Int),.int .u8 ((bs.getD 8 0).toNat:Int),.int .u8 ((bs.getD 9 0).toNat:Int),.int .u8 ((bs.getD 10 0).toNat:Int),.int .u8 ((bs.getD 11 0).toNat:Int),.int .u8 ((bs.getD 12 0).toNat:Int),.int .u8 ((bs.getD 13 0).toNat:Int),.int .u8 ((bs.getD 14 0).toNat:Int),.int .u8 ((bs.getD 15 0).toNat:Int),.int .u8 ((bs.getD 16 0).toNat:Int),.int .u8 ((bs.getD 17 0).toNat:Int),.int .u8 ((bs.getD 18 0).toNat:Int),.int .u8 ((bs.getD 19 0).toNat:Int),.int .u8 ((bs.getD 20 0).toNat:Int),.int .u8 ((bs.getD 21 0).toNat:Int),.int .u8 ((bs.getD 22 0).toNat:Int),.int .u8 ((bs.getD 23 0).toNat:Int),.int .u8 ((bs.getD 24 0).toNat:Int),.int .u8 ((bs.getD 25 0).toNat:Int),.int .u8 ((bs.getD 26 0).toNat:Int),.int .u8 ((bs.getD 27 0).toNat:Int),.int .u8 ((bs.getD 28 0).toNat:Int),.int .u8 ((bs.getD 29 0).toNat:Int),.int .u8 ((bs.getD 30 0).toNat:Int),.int .u8 ((bs.getD 31 0).toNat:Int)]:=by
 match bs,h with
 | [a0,a1,a2,a3,a4,a5,a6,a7,a8,a9,a10,a11,a12,a13,a14,a15,a16,a17,a18,a19,a20,a21,a22,a23,a24,a25,a26,a27,a28,a29,a30,a31],_=>rfl
def dlS(P:Program)(t:TypeId):Bool:=match P.underlying t with
 | some (.struct fs)=>match fs.toList with
  | [f0,f1,f2,f3,f4]=>f0.offset==0&&f1.offset==1&&f2.offset==2&&f3.offset==34&&f4.offset==66&&P.cellsOf f0.type==1&&P.cellsOf f1.type==1&&P.cellsOf f2.type==32&&P.cellsOf f3.type==32&&P.cellsOf f4.type==1&&P.cellsOf t==67 &&
   Zm P f0.type==some .i64&&Zm P f1.type==some .i64&&IK P f2.type 32&&IK P f3.type 32&&slC P f4.type
  | _=>false
 | _=>false
theorem ZS{α:Type}{l:List α}{i:Nat}(h:i<l.length):(l.drop i).take 1=[l[i]]:=by rw [List.drop_eq_getElem_cons h]; rfl
theorem oA{α:Type}(l:List α)(i k:Nat):l.drop i=(l.drop i).take k++l.drop (i+k):=by rw [← List.drop_drop,Ke]
end Go.Row
namespace Go.Row
open Go Go.Cx Go.ChangeShapes Go.WideShapes Go.RowKit Go.Proofs.YtaehgpeenaomcaaGreat
section
variable {H:Type}{enc:TypeId×Value→H}{P:Program}{W:World}{base:Nat}{held:Bool}
theorem IM{t:TypeId}(h:dlS P t=true){n9:Nat}{l:Ti}{y:DataW H×List MemPlace}(hd:DataW.trod enc P W base (fun _=>true) held n9 t l=some y) :
 ∃ (o n:Int) (B:Nat→UInt8) (q:Tg) (cap:Nat) (xs:List aa),l=aZ o n B q xs.length cap∧Pl.aA o∧Pl.aA n∧Rd W q (xs.flatMap JM)∧(∀ x,x∈xs→fE W x)∧xs.length≤cap∧cap≤9223372036854775807:=by
 unfold dlS at h
 split at h
 · rename_i fs hu
   split at h
   · rename_i f0 f1 f2 f3 f4 eD
     simp only [LJ,beq_iff_eq] at h
     obtain ⟨⟨⟨⟨⟨⟨⟨⟨⟨⟨⟨⟨⟨⟨⟨o0,o1⟩,o2⟩,o3⟩,o4⟩,c0⟩,c1⟩,c2⟩,c3⟩,c4⟩,ct⟩,t0⟩,t1⟩,t2⟩,t3⟩,t4⟩:=h
     obtain ⟨ys,m',rfl,_,hl,fz,hi⟩:=DataW.trod_struct hu hd
     have hsz:fs.size=5:=by rw [← Array.length_toList,eD]; rfl
     rw [ct] at hl
     change l.length=67 at hl
     have hg:∀ (i:Nat) f,[f0,f1,f2,f3,f4][i]?=some f→fs[i]?=some f:=fun i f hf=>by rw [← Array.getElem?_toList,eD]; exact hf
     have hy:∀ i,i<5→∃ y,ys[i]?=some y:=fun i h5=>⟨_,La Ta⟩
     obtain ⟨y0,g0⟩:=hy 0 Ta
     obtain ⟨y1,g1⟩:=hy 1 Ta
     obtain ⟨y2,g2⟩:=hy 2 Ta
     obtain ⟨y3,g3⟩:=hy 3 Ta
     obtain ⟨y4,g4⟩:=hy 4 Ta
     have h0:=hi 0 f0 (hg 0 f0 rfl)
     have h1:=hi 1 f1 (hg 1 f1 rfl)
     have h2:=hi 2 f2 (hg 2 f2 rfl)
     have h3:=hi 3 f3 (hg 3 f3 rfl)
     have h4:=hi 4 f4 (hg 4 f4 rfl)
     rw [o0,c0,g0] at h0
     rw [o1,c1,g1] at h1
     rw [o2,c2,g2] at h2
     rw [o3,c3,g3] at h3
     rw [o4,c4,g4] at h4
     have e0:=oA l 0 1
     have e1:=oA l 1 1
     have e2:=oA l 2 32
     have e3:=oA l 34 32
     have e4:=oA l 66 1
     have e5:l.drop 67=[]:=List.drop_eq_nil_of_le Ta
     rw [ZS Ta] at h0 h1 h4 e0 e1 e4
     obtain ⟨x0,k0,w0,_⟩:=Xo t0 h0
     obtain ⟨x1,k1,w1,_⟩:=Xo t1 h1
     obtain ⟨b2,k2,n2⟩:=y6 t2 h2
     obtain ⟨b3,k3,n3⟩:=y6 t3 h3
     unfold slC at t4
     split at t4
     · rename_i e hu4
       simp only [LJ,beq_iff_eq] at t4
       obtain ⟨q,cap,xs,k4,hR,aq,Gh,ko,_⟩:=vl JM (Q:=fE W) hu4 t4.1 (fun n cs y hl hx=>Fo t4.2 hx) h4
       have hL:l=aZ x0 x1 (fun i=>if i<32 then b2.getD i 0 else b3.getD (i-32) 0) q xs.length cap:=by
        have e6:l=l.drop 0:=rfl
        rw [e6,e0,e1,e2,e3,e4,e5,k0,k1,k2,k3,k4,b32 n2,b32 n3]
        rfl
       subst hL
       exact ⟨x0,x1,_,q,cap,xs,rfl,wf_i64 w0,wf_i64 w1,hR,aq,Gh,ko⟩
     · cases t4
   · cases h
 · cases h
def caS(P:Program)(t:TypeId):Bool:=match P.underlying t with
 | some (.struct fs)=>match fs.toList with
  | [f0,f1,f2,f3,f4]=>f0.offset==0&&f1.offset==1&&f2.offset==68&&f3.offset==69&&f4.offset==70&&P.cellsOf f0.type==1&&P.cellsOf f1.type==67&&P.cellsOf f2.type==1&&P.cellsOf f3.type==1&&P.cellsOf f4.type==1&&P.cellsOf t==71 &&
   slI P f0.type .u8&&dlS P f1.type&&Zm P f2.type==some .i64&&Zm P f3.type==some .i64&&Zm P f4.type==some .i64
  | _=>false
 | _=>false
theorem jaa{t:TypeId}{r:Reach}{b0:Nat}{v:Value}{d:DataW H}{p:List MemPlace}(h:caS P t=true)(hv:Value.okWide P W r b0 t v)(hd:DataW.Trod enc P W base (fun _=>true) held t v d p) :
 ∃ (o n:Int) (B:Nat→UInt8) (q:Tg) (cap:Nat) (xs:List aa) (r:Tg) (cr:Nat) (f:Th) (s b m:Int),v=.agg ⟨NY r f.length cr o n B q xs.length cap s b m⟩∧Pl.aA o∧Pl.aA n∧Pl.aA s∧Pl.aA b∧Rd W q (xs.flatMap JM)∧(∀ x,x∈xs→fE W x)∧Rd W r (f.flatMap Jk)∧f.length≤cr∧(cr≠0→∀ ad,r=some ad→ad.spot=none):=by
 unfold caS at h
 split at h
 · rename_i fs hu
   split at h
   · rename_i f0 f1 f2 f3 f4 eD
     simp only [LJ,beq_iff_eq] at h
     obtain ⟨⟨⟨⟨⟨⟨⟨⟨⟨⟨⟨⟨⟨⟨⟨o0,o1⟩,o2⟩,o3⟩,o4⟩,c0⟩,c1⟩,c2⟩,c3⟩,c4⟩,ct⟩,t0⟩,t1⟩,t2⟩,t3⟩,t4⟩:=h
     obtain ⟨cs,rfl,_⟩:=okWide_struct hu hv
     obtain ⟨l⟩:=cs
     obtain ⟨m,hd⟩:=hd
     obtain ⟨ys,m',rfl,_,hl,fz,hi⟩:=DataW.trod_struct hu hd
     have hsz:fs.size=5:=by rw [← Array.length_toList,eD]; rfl
     rw [ct] at hl
     change l.length=71 at hl
     have hg:∀ (i:Nat) f,[f0,f1,f2,f3,f4][i]?=some f→fs[i]?=some f:=fun i f hf=>by rw [← Array.getElem?_toList,eD]; exact hf
     have hy:∀ i,i<5→∃ y,ys[i]?=some y:=fun i h5=>⟨_,La Ta⟩
     obtain ⟨y0,g0⟩:=hy 0 Ta
     obtain ⟨y1,g1⟩:=hy 1 Ta
     obtain ⟨y2,g2⟩:=hy 2 Ta
     obtain ⟨y3,g3⟩:=hy 3 Ta
     obtain ⟨y4,g4⟩:=hy 4 Ta
     have h0:=hi 0 f0 (hg 0 f0 rfl)
     have h1:=hi 1 f1 (hg 1 f1 rfl)
     have h2:=hi 2 f2 (hg 2 f2 rfl)
     have h3:=hi 3 f3 (hg 3 f3 rfl)
     have h4:=hi 4 f4 (hg 4 f4 rfl)
     rw [o0,c0,g0] at h0
     rw [o1,c1,g1] at h1
     rw [o2,c2,g2] at h2
     rw [o3,c3,g3] at h3
     rw [o4,c4,g4] at h4
     simp only [Value.cells] at h0 h1 h2 h3 h4
     have e0:=oA l 0 1
     have e1:=oA l 1 67
     have e2:=oA l 68 1
     have e3:=oA l 69 1
     have e4:=oA l 70 1
     have e5:l.drop 71=[]:=List.drop_eq_nil_of_le Ta
     rw [ZS Ta] at h0 h2 h3 h4 e0 e2 e3 e4
     obtain ⟨s0,k0,IU⟩:=y5 t0 h0
     obtain ⟨o,n,B,q,cap,xs,k1,w0,w1,hR,aq,Gh,ko⟩:=IM t1 h1
     obtain ⟨x2,k2,w2,_⟩:=Xo t2 h2
     obtain ⟨x3,k3,w3,_⟩:=Xo t3 h3
     obtain ⟨x4,k4,w4,_⟩:=Xo t4 h4
     have hL:l=NY s0.p s0.bs.length s0.cap o n B q xs.length cap x2 x3 x4:=by
      have e6:l=l.drop 0:=rfl
      rw [e6,e0,e1,e2,e3,e4,e5,k0,k1,k2,k3,k4]
      rfl
     subst hL
     exact ⟨o,n,B,q,cap,xs,s0.p,s0.cap,s0.bs,x2,x3,x4,rfl,w0,w1,wf_i64 w2,wf_i64 w3,hR,aq,IU.rd,IU.le,IU.spot⟩
   · cases h
 · cases h
end
theorem Fp{P:Program}{w:World}{t:TypeId}{zero:Array Value}(h:w.ShapedOpen P)(hg:0<P.globals.size)(h0:((begin P (fun _ _=>0) default).world.heap[0]?).bind Obj.row?=some (zero,t))(hz:zero.size=1)
 (hb:P.buildable t=true) (hc:P.cellTypes P.depth t=some [t]) (hu:P.underlying t=some (.int .i64)):Gz w:=by
 obtain ⟨cs,hh,hs,hr⟩:=h.1 0 zero t hg h0
 obtain ⟨ts,dU,_,cI⟩:=hr hb
 rw [hc] at dU
 cases dU
 have h1:0<cs.size:=by omega
 obtain ⟨u,wC,aq⟩:=cI 0 cs[0] (by simp [h1])
 have:u=t:=by simpa using wC.symm
 subst this
 have ef:cs=#[cs[0]]:=by
  apply Array.ext
  · simp; omega
  · intro i hi hj
    have:i=0:=by simp at hj; omega
    subst this
    rfl
 unfold Cell.ok at aq
 rw [hu] at aq
 cases hv:cs[0] with
 | int k z=>
  rw [hv] at aq
  have hk:k=.i64:=by
   simp at aq
   first | exact aq.1 | exact aq.1.symm
  subst hk
  exact ⟨z,by
   unfold World.cell?
   rw [hh,ef,hv]
   rfl⟩
 | _=>rw [hv] at aq; simp at aq
section
variable {H:Type}{enc:TypeId×Value→H}
theorem Fq{a:Assume}{C:Checked}{os:Os}{f:FuncId}{fn:Func}{s:ChangeSpec}{conds:List PathCond}{apart fresh handsOn again:Bool}
 (own:ownKnob C.prog.godebug=none) (started:os.Started) (PC:C.prog.inits.idxOf? f=none) (Bf:C.prog.funcs[f]?=some fn)
 (witness:∃ (w:World) (tape:Tape) (i:Input),w.os=os∧(w.forCall tape i).Shaped C.prog∧i.vars=[]∧Input.okWide C.prog (w.forCall tape i) .any w.heap.size f i ∧
  s.pre6 enc C.prog fn conds apart (w.forCall tape i).memory i.args∧a.holds C.prog (lone (Frame.enter C.prog f i.args .normal) [] (w.forCall tape i)))
 (contract:∀ (W:World) (base:Nat) (args:Array Value) (ds gs:List (DataW H)) (before:List MemPlace),W.ShapedOpen C.prog →
  (∀ (j:Nat) t v,fn.params[j]?=some t→args[j]?=some v→Value.okWide C.prog W .any base t v) →
  DataW.Whole enc C.prog fn.params.toList s.vars apart W args.toList ds gs before →
  Calls C.prog f args W fun e W'=>∃ v,e=.returned v∧s.post enc C.prog fn apart fresh handsOn again W args v W') :
 ReturnsInHanded a C os f .any (s.pre6 enc C.prog fn conds apart) (s.post enc C.prog fn apart fresh handsOn again):=by
 refine returnsInHanded_of_calls own started PC witness ?_
 intro w tape i _ hsh _ aq mZ jcj
 obtain ⟨_,_,_,fn',jck,_,_,_,_,Sl⟩:=aq
 have e:fn'=fn:=Option.some.inj (jck.symm.trans Bf)
 subst e
 obtain ⟨⟨ds,gs,before,hw,hc⟩,hz⟩:=mZ
 have hw':=DataW.Whole.of_heap (w':=w.forCall tape i) (by rfl) hw
 refine (contract (w.forCall tape i) w.heap.size i.args ds gs before hsh Sl hw').mono fun e W' ⟨v,he,hp⟩=>?_
 subst he
 exact ChangeSpec.post_blind hp
end
end Go.Row
