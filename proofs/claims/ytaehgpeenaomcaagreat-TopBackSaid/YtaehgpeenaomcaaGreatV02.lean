/- Part 3 of the proof of TopBack: EnA PlE PlF PlG PlH CxM CxN CxQ CxR CxS PlI CxT CxU PlV CxV CxZ CyA PlR CxW CxX PlS CxY CyE CyF. Conditions: the hypotheses of each theorem. -/
import Derived.Test.YtaehgpeenaomcaaGreatV01
import Derived.Lib.SlBytesConst
set_option maxRecDepth 10000
set_option maxHeartbeats 4000000
set_option linter.unusedVariables false
set_option linter.unusedSimpArgs false
namespace Go.Cx
open Go
def Q9(e:Int×Int):List Value:=[.int .i64 e.1,.int .i64 e.2]
theorem QM(e:Int×Int):(Q9 e).length=2:=rfl
def ME(o:Option (Int×Int)):List Value:=[.int .i64 (o.getD (0,0)).1,.int .i64 (o.getD (0,0)).2]
theorem nx(k:Nat):(some (Value.int .i64 ((k:Int)+1)))=some (.int .i64 ((k+1:Nat):Int)):=by simp
theorem oS{x s:Int}(h1:0≤x)(h2:x≤9223372036854775807)(hs:1≤s):IntKind.i64.wrap (x.tdiv s)=x/s:=by
 rw [Int.tdiv_eq_ediv_of_nonneg h1]
 have h3:0≤x/s:=Int.ediv_nonneg h1 Ta
 have h4:x/s≤x:=Int.ediv_le_self s h1
 exact Ql Ta Ta
theorem Gl{w:World}{m:Nat}{e:TypeId}{l l':Ti}(h:w.heap[m]?=some (ag.row e l).Jd):(w.setRow m ⟨l'⟩).heap[m]?=some (ag.row e l').Jd:=setRow_heap w m ⟨l⟩ ⟨l'⟩ e (0,0) h
def encI(x:Int):List Value:=[.int .i64 x]
theorem Jq(x:Int):(encI x).length=1:=rfl
def qy(s b o n:Int):List Value:=[.int .i64 (Pl.lz (Pl.X7 s b o n) s),.int .i64 (Pl.lz (Pl.X7 s b o n) b),.int .i64 0,.int .i64 (Pl.lz (Pl.X7 s b o n) (max o n)),
 .int .i64 (Pl.lz (Pl.X7 s b o n) (Pl.qv s o n)),.int .i64 (Pl.lz (Pl.X7 s b o n) (2*Pl.slot s b)),.int .i64 (Pl.lz (Pl.X7 s b o n) (Pl.qv s o n+2*Pl.slot s b))]
def xA(p:Tg)(n cap:Nat)(s:Pl.RS):List Value:=[.slice p n cap,.int .i64 s.at_,.int .i64 s.code,.int .i64 s.fat]
def tkV(p:Tg)(cap a:Nat)(n:Int)(ok:Bool):Value:=bif ok then .slice (bP p cap a 1) n.toNat (cap-a) else .slice none 0 0
def Gm(f:Int×Int):List Value:=[.int .u64 f.1,.int .i64 f.2]
theorem sS(f:Int×Int):(Gm f).length=2:=rfl
theorem or8{y c:Int}(hy:0≤y∧y<18446744073709551616∧y%256=0)(hc:0≤c∧c<256):IntKind.u64.wrap (BitVec.ofInt IntKind.u64.bits y ||| BitVec.ofInt IntKind.u64.bits c).toNat=y+c:=by
 have hb:IntKind.u64.bits=64:=rfl
 obtain ⟨q,hq⟩:∃ q:Nat,y=((2 ^ 8*q:Nat):Int):=⟨(y/256).toNat,Ta⟩
 obtain ⟨d,hd⟩:∃ d:Nat,c=(d:Int):=⟨c.toNat,Ta⟩
 subst hq hd
 have h1:(BitVec.ofInt IntKind.u64.bits ((2 ^ 8*q:Nat):Int) ||| BitVec.ofInt IntKind.u64.bits (d:Int)).toNat=2 ^ 8*q+d:=by
  rw [BitVec.toNat_or,BitVec.toNat_ofInt,BitVec.toNat_ofInt]
  have e1:(((2 ^ 8*q:Nat):Int)%(2 ^ IntKind.u64.bits:Nat)).toNat=2 ^ 8*q:=by rw [hb]; omega
  have e2:(((d:Nat):Int)%(2 ^ IntKind.u64.bits:Nat)).toNat=d:=by rw [hb]; omega
  rw [e1,e2]
  exact (Nat.two_pow_add_eq_or_of_lt Ta q).symm
 rw [h1]
 exact (iJ Ta Ta).trans Ta
theorem jaj{x:Int}(h:0≤x∧x<72057594037927936):IntKind.u64.wrap (x*2 ^ (min (8:Int).toNat IntKind.u64.bits))=x*256:=by
 have:(2:Int) ^ (min (8:Int).toNat IntKind.u64.bits)=256:=by decide
 rw [this]
 exact iJ Ta Ta
theorem jak{v j:Int}{k:Nat}(hv:0≤v)(hj:j=8*k)(hk:k≤8):IntKind.u8.wrap (v.fdiv (2 ^ (min j.toNat IntKind.u64.bits)))=((Pl.RT v k).toNat:Int):=by
 have e:IntKind.u64.bits=64:=rfl
 rw [e,Pl.jai hv hj hk,Pl.xx]
 simp [IntKind.wrap,IntKind.signed,IntKind.bits]
theorem nx1(j:Nat)(h:0<j):some (Value.int .i64 ((j:Int)-1-1))=some (.int .i64 (((j-1:Nat):Int)-1)):=by congr 2; omega
structure SB where
 p:Tg
 cap:Nat
 bs:Th
def SB.v(s:SB):Value:=.slice s.p s.bs.length s.cap
structure SB.ok(W:World)(s:SB):Prop where
 rd:Rd W s.p (s.bs.flatMap Jk)
 le:s.bs.length≤s.cap
 spot:s.cap≠0→∀ ad,s.p=some ad→ad.spot=none
 max:s.cap≤9223372036854775807
structure OpV where
 k:Int
 n:Int
 d:SB
def encS(s:SB):List Value:=[.slice s.p s.bs.length s.cap]
theorem V7(s:SB):(encS s).length=1:=rfl
structure aa where
 k:Int
 to:Int
 fr:Int
 ln:Int
 d:SB
def JM(c:aa):List Value:=[.int .i64 c.k,.int .i64 c.to,.int .i64 c.fr,.int .i64 c.ln,.slice c.d.p c.d.bs.length c.d.cap]
theorem Jf(c:aa):(JM c).length=5:=rfl
def fE(W:World)(c:aa):Prop:=Pl.aA c.k∧Pl.aA c.to∧Pl.aA c.fr∧Pl.aA c.ln∧c.d.ok W
def fV(c:Pl.Cm)(p:Tg)(n cap:Nat):List Value:=[.int .i64 c.k,.int .i64 c.to,.int .i64 c.fr,.int .i64 c.ln,.slice p n cap]
def aa.cm(c:aa):Pl.Cm:=⟨c.k,c.to,c.fr,c.ln,c.d.bs⟩
theorem fE.cm{W:World}{c:aa}(h:fE W c):Pl.vQ c.cm:=⟨h.1,h.2.1,h.2.2.1,h.2.2.2.1⟩
theorem Acc.RV{e es n cap g:Nat}{b:ag}{p:Tg}{cells:Ti}(h:Acc e es p n cap cells g b):Acc e es p 0 cap [] g b:=by
 refine ⟨Tc,?_⟩
 rcases h.cases' with ⟨h1,h2,h3⟩ | ⟨l,h1,h2,h3,h4,h5⟩
 · exact .inl ⟨rfl,h2,h3⟩
 · exact .inr ⟨l,h1,h2,LL _,h4,Tc⟩
theorem Cd{α:Type}(f:α→Th)(ps:List α)(k:Nat):((ps.take k).flatMap f).length≤(ps.flatMap f).length:=by
 have e:ps.flatMap f=(ps.take k).flatMap f++(ps.drop k).flatMap f:=by rw [← Lh,Ke]
 rw [e,Lc]
 omega
theorem SB.ok.ext{w w':World}{s:SB}(h:s.ok w)(hx:Ext No w w'):s.ok w':=⟨h.rd.Jj hx,h.le,h.spot,h.max⟩
end Go.Cx
namespace Go.Pl
def Ji(c:Cm)(s:Int):Int:=if s<1 then 0 else (aw c-1)/s+1
def fc(c:Cm):Bool:=qx c&&decide (c.fr<c.to)
def QD(c:Cm)(s k:Int):Int:=bif fc c then Ji c s-1-k else k
def QW(c:Cm)(s k:Int):Cm:=Qu c (c.to+QD c s k*s) (min s (aw c-QD c s k*s))
def chunks(c:Cm)(s:Int):List Cm:=if Ji c s>1048576 then [] else (List.range (Ji c s).toNat).map fun k=>QW c s (k:Nat)
def Qd(s:Int)(cs:List Cm):List Cm:=cs.flatMap fun c=>chunks c s
theorem J9{c:Cm}{s:Int}(hc:av c=0)(hs:1≤s):Ji c s=(aw c-1)/s+1∧1≤Ji c s∧Ji c s≤aw c:=by
 have hk:=Jl hc
 have h1:=Int.ediv_nonneg (a:=aw c-1) (b:=s) Ta Ta
 have h2:=Int.ediv_le_self s (show 0≤aw c-1 by omega)
 unfold Ji
 rw [LH Ta]
 omega
theorem Vc{c:Cm}{s:Int}(hc:av c=0):0≤Ji c s∧Ji c s≤4611686018427387904:=by
 have hk:=Jl hc
 by_cases hs:1≤s
 · have:=J9 hc hs; omega
 · unfold Ji; rw [LI Ta]; omega
theorem Ce{c:Cm}{s k:Int}(hk:0≤k∧k<Ji c s):0≤QD c s k∧QD c s k<Ji c s:=by
 unfold QD
 cases fc c <;> simp <;> omega
theorem Xj{c:Cm}{s k:Int}(hc:av c=0)(hk:0≤k∧k<Ji c s) :
 1≤s∧0≤QD c s k∧0≤QD c s k*s∧QD c s k*s<aw c∧QD c s k*s≤4611686018427387903∧(0<min s (aw c-QD c s k*s)∧c.to≤c.to+QD c s k*s∧c.to+QD c s k*s+min s (aw c-QD c s k*s)≤c.to+aw c):=by
 have hx:=Ce hk
 have ho:=Jl hc
 have hs:1≤s:=by
  by_cases h:1≤s
  · exact h
  · unfold Ji at hk; rw [LI Ta] at hk; omega
 have hp:=J9 hc hs
 have h1:QD c s k≤(aw c-1)/s:=by omega
 have h2:=Int.mul_le_of_le_ediv Ta h1
 have h3:0≤QD c s k*s:=Int.mul_nonneg Ta Ta
 omega
theorem lO{c:Cm}{s k:Int}(hc:av c=0)(hk:0≤k∧k<Ji c s):av (QW c s k)=0∧(QW c s k).to=c.to+QD c s k*s∧aw (QW c s k)=min s (aw c-QD c s k*s)∧(QW c s k).k=c.k:=
 sR hc (Xj hc hk).2.2.2.2.2
theorem sT{c:Cm}{s:Int}{i:Nat}:(List.range (i+1)).map (fun k=>QW c s (k:Nat))=(List.range i).map (fun k=>QW c s (k:Nat))++[QW c s i]:=by
 rw [List.range_succ,Lx]; rfl
theorem qz{c:Cm}{s:Int}(h0:0≤Ji c s)(h:Ji c s≤1048576):((chunks c s).length:Int)=Ji c s:=by
 unfold chunks
 rw [LH Ta,Lj,List.length_range]
 omega
theorem vR{c:Cm}{s:Int}{k:Nat}(h:Ji c s≤1048576)(hk:(k:Int)<Ji c s):(chunks c s)[k]?=some (QW c s k):=by
 unfold chunks
 rw [LH Ta,Lt,List.getElem?_range Ta]
 rfl
theorem Gn{c:Cm}{s k:Int}(hc:av c=0)(hk:0≤k∧k<Ji c s)(h1:c.k=1):(QW c s k).fr-c.fr=(QW c s k).to-c.to:=by
 have h:=Xj hc hk
 unfold QW Qu
 rw [XA h.2.2.2.2.2,LI h1]
 simp only [Option.getD_some]
 omega
end Go.Pl
namespace Go.Pl
def put(f:Th)(o:Nat)(d:Th):List UInt8:=f.take o++d++f.drop (o+d.length)
def ei(f:Th)(c:Cm):List UInt8:=if c.k=1 then (f.drop c.fr.toNat).take c.ln.toNat else c.bs
def ju(f:Th)(c:Cm):List UInt8:=put f c.to.toNat (ei f c)
def bz(n:Int)(c:Cm):Bool:=decide (c.to+aw c≤n)&&(decide (c.k≠1)||decide (c.fr+c.ln≤n))
def zx(f:Th)(cs:List Cm):Option Th:=if cs.all (bz f.length) then some (cs.foldl ju f) else none
theorem Xq{f d:Th}{o:Nat}(h:o+d.length≤f.length):(put f o d).length=f.length:=by
 unfold put; simp only [Lc,Lg,Lm]; omega
theorem XI{f d:Th}{o:Nat}(h:o+d.length≤f.length)(i:Nat):(put f o d)[i]?=if o≤i∧i<o+d.length then d[i-o]? else f[i]?:=by
 unfold put
 by_cases h1:i<o
 · rw [LH Ta,Lp,L3 (by rw [Lg]; omega),LF,LI h1]
 · by_cases h2:i<o+d.length
   · rw [LI Ta,Lp,L6 (by rw [Lg]; omega),L3 (by rw [Lg]; omega)]
     congr 1; rw [Lg]; omega
   · rw [LH Ta,L6 (by rw [Lc,Lg]; omega),Kc]
     congr 1; rw [Lc,Lg]; omega
theorem VP{f:Th}{c:Cm}(hc:av c=0)(hf:bz f.length c=true):((ei f c).length:Int)=aw c:=by
 have hk:=Jl hc
 simp only [bz,LJ,Bool.or_eq_true,LO] at hf
 unfold ei
 split
 · rw [Lg,Lm]; omega
 · omega
theorem ZG{f:Th}{c:Cm}(hc:av c=0)(hf:bz f.length c=true):(ju f c).length=f.length:=by
 have hk:=Jl hc
 have hw:=VP hc hf
 simp only [bz,LJ,Bool.or_eq_true,LO] at hf
 exact Xq Ta
theorem lP:∀ {cs:List Cm} {f:Th},(∀ c∈cs,av c=0)→cs.all (bz f.length)=true→(cs.foldl ju f).length=f.length
 | [],f,_,_=>rfl
 | c::r,f,hc,hf=>by
  simp only [List.all_cons,LJ] at hf
  have h1:=ZG (hc c Tc) hf.1
  rw [List.foldl_cons,lP (fun d hd=>hc d (by simp [hd])) (by rw [h1]; exact hf.2),h1]
def Up(f W:Th)(A p q:Nat)(g:Th):Prop:=g.length=f.length∧∀ i,g[i]?=if A+p≤i∧i<A+q then W[i-A]? else f[i]?
theorem Up.none(f W:Th)(A p:Nat):Up f W A p p f:=⟨rfl,fun i=>by rw [LH Ta]⟩
theorem Up.all{f W g:Th}{A:Nat}(h:Up f W A 0 W.length g)(hA:A+W.length≤f.length):g=put f A W:=by
 apply Kb
 intro i
 rw [h.2,XI hA]
 rfl
theorem Vu{W:Th}{o m j:Nat}:((W.drop o).take m)[j]?=if j<m then W[o+j]? else none:=by
 rw [LF]
 split
 · rw [Kc]
 · rfl
theorem oT{W:Th}{o m:Nat}(h:o+m≤W.length):((W.drop o).take m).length=m:=by
 rw [Lg,Lm]; omega
theorem Up.up{f W g:Th}{A p o m:Nat}(h:Up f W A p o g)(hp:p≤o)(hm:o+m≤W.length)(hA:A+W.length≤f.length):Up f W A p (o+m) (put g (A+o) ((W.drop o).take m)):=by
 have hl:=oT hm
 refine ⟨by rw [Xq (by rw [hl,h.1]; omega),h.1],fun i=>?_⟩
 rw [XI (by rw [hl,h.1]; omega),hl,h.2]
 by_cases h1:A+o≤i∧i<A+o+m
 · rw [LI h1,LI Ta,Vu,LI Ta]
   congr 1; omega
 · rw [LH h1]
   by_cases h2:A+p≤i∧i<A+o
   · rw [LI h2,LI Ta]
   · rw [LH h2,LH Ta]
theorem Up.down{f W g:Th}{A q o m:Nat}(h:Up f W A (o+m) q g)(hq:o+m≤q)(hm:o+m≤W.length)(hA:A+W.length≤f.length):Up f W A o q (put g (A+o) ((W.drop o).take m)):=by
 have hl:=oT hm
 refine ⟨by rw [Xq (by rw [hl,h.1]; omega),h.1],fun i=>?_⟩
 rw [XI (by rw [hl,h.1]; omega),hl,h.2]
 by_cases h1:A+o≤i∧i<A+o+m
 · rw [LI h1,LI Ta,Vu,LI Ta]
   congr 1; omega
 · rw [LH h1]
   by_cases h2:A+(o+m)≤i∧i<A+q
   · rw [LI h2,LI Ta]
   · rw [LH h2,LH Ta]
theorem Up.read{f g:Th}{A F N p q o m:Nat}(h:Up f ((f.drop F).take N) A p q g)(ho:o+m≤N)(hd:F+o+m≤A+p∨A+q≤F+o∨q≤p):(g.drop (F+o)).take m=(((f.drop F).take N).drop o).take m:=by
 apply Kb
 intro j
 rw [Vu,Vu]
 split
 · rw [h.2,LH Ta,Vu,LI Ta]
   congr 1; omega
 · rfl
theorem xB{c:Cm}{s k:Int}(hc:av c=0)(hk:0≤k∧k<Ji c s):QW c s k=if c.k=1 then ⟨1,c.to+QD c s k*s,c.fr+QD c s k*s,min s (aw c-QD c s k*s),[]⟩ else ⟨2,c.to+QD c s k*s,0,0,(c.bs.drop (QD c s k*s).toNat).take (min s (aw c-QD c s k*s)).toNat⟩:=by
 have h:=(Xj hc hk).2.2.2.2.2
 have e:c.to+QD c s k*s-c.to=QD c s k*s:=by omega
 unfold QW Qu
 rw [XA h,Option.getD_some,e]
theorem Cf{c:Cm}(hc:av c=0)(hk:c.k=1)(h:qx c=false):c.fr+c.ln≤c.to∨c.to+c.ln≤c.fr:=by
 have ho:=Jl hc
 unfold qx at h
 rw [hk] at h
 simp only [decide_true,Bool.true_and] at h
 unfold aL zn at h
 grind
theorem xC{c:Cm}{s k:Int}{f g:Th}{p q o m:Nat}(hc:av c=0)(hk:0≤k∧k<Ji c s)(hf:bz f.length c=true)(ho:(o:Int)=QD c s k*s)(hm:(m:Int)=min s (aw c-QD c s k*s))(h:Up f (ei f c) c.to.toNat p q g)
 (hd:c.k=1→c.fr.toNat+o+m≤c.to.toNat+p∨c.to.toNat+q≤c.fr.toNat+o∨q≤p):ju g (QW c s k)=put g (c.to.toNat+o) (((ei f c).drop o).take m):=by
 have b6:=Jl hc
 have hb:=Xj hc hk
 have hw:=VP hc hf
 rw [xB hc hk]
 rw [← ho] at hb hm ⊢
 rw [← hm] at hb ⊢
 unfold ju
 by_cases h1:c.k=1
 · have hW:ei f c=(f.drop c.fr.toNat).take c.ln.toNat:=by unfold ei; rw [LI h1]
   rw [hW] at h
   rw [LI h1,hW]
   have e1:(c.to+(o:Int)).toNat=c.to.toNat+o:=by omega
   have e2:(c.fr+(o:Int)).toNat=c.fr.toNat+o:=by omega
   simp only [ei,e1,e2,LD,if_true]
   rw [h.read Ta (hd h1)]
 · have hW:ei f c=c.bs:=by unfold ei; rw [LH h1]
   rw [LH h1,hW]
   have e1:(c.to+(o:Int)).toNat=c.to.toNat+o:=by omega
   simp only [ei,e1,LD]
   rfl
theorem oU{c:Cm}{s:Int}{f:Th}(K:Nat):((List.range (K+1)).map fun k=>QW c s (k:Nat)).foldl ju f=ju (((List.range K).map fun k=>QW c s (k:Nat)).foldl ju f) (QW c s K):=by
 rw [sT,List.foldl_append]; rfl
theorem iS{c:Cm}{s:Int}(hc:av c=0)(hs:1≤s):(Ji c s-1)*s<aw c∧aw c≤Ji c s*s:=by
 have hk:=Jl hc
 have hp:=(J9 hc hs).1
 have h1:=Int.mul_ediv_add_emod (aw c-1) s
 have h2:=Int.emod_nonneg (aw c-1) (show s≠0 by omega)
 have h3:=Int.emod_lt_of_pos (aw c-1) (show 0<s by omega)
 have e:Ji c s-1=(aw c-1)/s:=by omega
 have e2:Ji c s*s=(Ji c s-1)*s+s:=by rw [Int.sub_mul,Int.one_mul]; omega
 rw [e2,e,Int.mul_comm]
 omega
theorem oV{c:Cm}{s:Int}{f:Th}(hc:av c=0)(hs:1≤s)(hf:bz f.length c=true)(eB:fc c=false):∀ K:Nat,(K:Int)≤Ji c s→Up f (ei f c) c.to.toNat 0 (min (K*s) (aw c)).toNat (((List.range K).map fun k=>QW c s (k:Nat)).foldl ju f)
 | 0,_=>by
  have e:(min (((0:Nat):Int)*s) (aw c)).toNat=0:=by simp; omega
  rw [e]
  exact Up.none _ _ _ _
 | K+1,hK=>by
  have b6:=Jl hc
  have hw:=VP hc hf
  have ih:=oV hc hs hf eB K Ta
  have qA:(0:Int)≤(K:Int)∧(K:Int)<Ji c s:=by omega
  have hb:=Xj hc qA
  have oQ:QD c s K=K:=by unfold QD; rw [eB]; rfl
  rw [oQ] at hb
  obtain ⟨o,ho⟩:∃ o:Nat,(K:Int)*s=o:=⟨((K:Int)*s).toNat,Ta⟩
  obtain ⟨m,hm⟩:∃ m:Nat,min s (aw c-K*s)=m:=⟨(min s (aw c-K*s)).toNat,Ta⟩
  have e1:(min ((K:Int)*s) (aw c)).toNat=o:=by omega
  have e2:(((K+1:Nat):Int)*s)=o+s:=by rw [Int.natCast_add,Int.add_mul,ho]; simp
  have e3:(min (((K+1:Nat):Int)*s) (aw c)).toNat=o+m:=by rw [e2]; omega
  have kM:=hf
  simp only [bz,LJ,Bool.or_eq_true,LO] at kM
  rw [e1] at ih
  rw [e3,oU,xC hc qA hf (o:=o) (m:=m) (by rw [oQ,ho]) (by rw [oQ,hm]) ih ?_]
  · exact ih.up Ta Ta Ta
  · intro h1
    by_cases RX:qx c=true
    · have:¬ c.fr<c.to:=by
       intro aX
       unfold fc at eB
       rw [RX] at eB
       simp [aX] at eB
      right; left; omega
    · have:=Cf hc h1 (by simpa using RX)
      omega
theorem jv{c:Cm}{s:Int}{f:Th}(hc:av c=0)(hs:1≤s)(hf:bz f.length c=true)(eB:fc c=true):∀ K:Nat,(K:Int)≤Ji c s→Up f (ei f c) c.to.toNat (min ((Ji c s-K)*s) (aw c)).toNat (aw c).toNat (((List.range K).map fun k=>QW c s (k:Nat)).foldl ju f)
 | 0,_=>by
  have lQ:=iS hc hs
  have e:(min ((Ji c s-((0:Nat):Int))*s) (aw c)).toNat=(aw c).toNat:=by simp only [Int.natCast_zero,Int.sub_zero]; omega
  rw [e]
  exact Up.none _ _ _ _
 | K+1,hK=>by
  have b6:=Jl hc
  have hw:=VP hc hf
  have ih:=jv hc hs hf eB K Ta
  have qA:(0:Int)≤(K:Int)∧(K:Int)<Ji c s:=by omega
  have hb:=Xj hc qA
  have oQ:QD c s K=Ji c s-1-K:=by unfold QD; rw [eB]; rfl
  rw [oQ] at hb
  obtain ⟨o,ho⟩:∃ o:Nat,(Ji c s-1-K)*s=o:=⟨((Ji c s-1-K)*s).toNat,Ta⟩
  obtain ⟨m,hm⟩:∃ m:Nat,min s (aw c-(Ji c s-1-K)*s)=m:=⟨(min s (aw c-(Ji c s-1-K)*s)).toNat,Ta⟩
  have e2:(Ji c s-(K:Int))*s=o+s:=by rw [← ho,Int.sub_mul,Int.sub_mul,Int.sub_mul]; omega
  have e1:(min ((Ji c s-(K:Int))*s) (aw c)).toNat=o+m:=by rw [e2]; omega
  have e4:(Ji c s-((K+1:Nat):Int))*s=o:=by rw [← ho]; congr 1; omega
  have e3:(min ((Ji c s-((K+1:Nat):Int))*s) (aw c)).toNat=o:=by rw [e4]; omega
  have kM:=hf
  simp only [bz,LJ,Bool.or_eq_true,LO] at kM
  have aX:c.fr<c.to:=by unfold fc at eB; simp only [LJ,LO] at eB; exact eB.2
  rw [e1] at ih
  rw [e3,oU,xC hc qA hf (o:=o) (m:=m) (by rw [oQ,ho]) (by rw [oQ,hm]) ih ?_]
  · exact ih.down Ta Ta Ta
  · intro h1
    left; omega
theorem lR{c:Cm}{s n:Int}(hc:av c=0)(hs:1≤s)(hn:Ji c s≤1048576):(chunks c s).all (bz n)=bz n c:=by
 have b6:=Jl hc
 have hp:=J9 hc hs
 have lQ:=iS hc hs
 have fF:∀ k:Int,(0≤k∧k<Ji c s)→bz n (QW c s k)=(decide (c.to+QD c s k*s+min s (aw c-QD c s k*s)≤n)&&(decide (c.k≠1)||decide (c.fr+QD c s k*s+min s (aw c-QD c s k*s)≤n))):=fun k hk=>by
  have h1:=lO hc hk
  unfold bz
  rw [h1.2.1,h1.2.2.1,h1.2.2.2]
  by_cases dq:c.k=1
  · rw [xB hc hk,LI dq]
  · simp [dq]
 rw [Bool.eq_iff_iff,List.all_eq_true]
 unfold chunks
 rw [LH Ta]
 constructor
 · intro h
   obtain ⟨k,qA,oQ⟩:∃ k:Int,(0≤k∧k<Ji c s)∧QD c s k=Ji c s-1:=by
    by_cases hd:fc c=true
    · exact ⟨0,Ta,by unfold QD; rw [hd]; simp⟩
    · exact ⟨Ji c s-1,Ta,by unfold QD; simp only [Bool.not_eq_true] at hd; rw [hd]; rfl⟩
   have h2:=h (QW c s k) (Ln.2 ⟨k.toNat,by simp; omega,by rw [Int.toNat_of_nonneg qA.1]⟩)
   rw [fF k qA,oQ] at h2
   simp only [bz,LJ,Bool.or_eq_true,LO] at h2 ⊢
   have e2:Ji c s*s=(Ji c s-1)*s+s:=by rw [Int.sub_mul,Int.one_mul]; omega
   generalize (Ji c s-1)*s=Z at *
   omega
 · intro h d hd
   obtain ⟨k,vS,rfl⟩:=Ln.1 hd
   have qA:(0:Int)≤(k:Int)∧(k:Int)<Ji c s:=by have:=List.mem_range.1 vS; omega
   have hb:=Xj hc qA
   rw [fF k qA]
   simp only [bz,LJ,Bool.or_eq_true,LO] at h ⊢
   omega
theorem vT{c:Cm}{s:Int}{f:Th}(hc:av c=0)(hs:1≤s)(hn:Ji c s≤1048576):zx f (chunks c s)=zx f [c]:=by
 have b6:=Jl hc
 have hp:=J9 hc hs
 have lQ:=iS hc hs
 unfold zx
 rw [lR hc hs hn]
 have e1:[c].all (bz f.length)=bz f.length c:=by simp
 rw [e1]
 by_cases hf:bz f.length c=true
 · rw [LI hf,LI hf]
   have hw:=VP hc hf
   have kM:=hf
   simp only [bz,LJ,Bool.or_eq_true,LO] at kM
   have ec:chunks c s=(List.range (Ji c s).toNat).map fun k=>QW c s (k:Nat):=by unfold chunks; rw [LH Ta]
   have eN:(((Ji c s).toNat:Nat):Int)=Ji c s:=by omega
   have hU:Up f (ei f c) c.to.toNat 0 (ei f c).length ((chunks c s).foldl ju f):=by
    rw [ec]
    by_cases hd:fc c=true
    · have h:=jv hc hs hf hd (Ji c s).toNat Ta
      rw [eN] at h
      have e3:(min ((Ji c s-Ji c s)*s) (aw c)).toNat=0:=by rw [Int.sub_self,Int.zero_mul]; omega
      have e4:(aw c).toNat=(ei f c).length:=by omega
      rw [e3,e4] at h
      exact h
    · have h:=oV hc hs hf (by simpa using hd) (Ji c s).toNat Ta
      rw [eN] at h
      have e3:(min (Ji c s*s) (aw c)).toNat=(ei f c).length:=by omega
      rw [e3] at h
      exact h
   rw [hU.all Ta]
   rfl
 · rw [LH hf,LH hf]
end Go.Pl
namespace Go.Pl
end Go.Pl
namespace Go.Pl
def steps(s:Int):Nat→List Cm→List (Nat×Cm)
 | _,[]=>[]
 | b,c::r=>(chunks c s).map (fun d=>(b,d))++steps s (b+1) r
def first(s:Int):List Cm→Nat→Int
 | _,0=>0
 | [],_+1=>0
 | c::r,k+1=>Ji c s+first s r k
def before:List Cm→Nat→Int
 | _,0=>0
 | [],_+1=>0
 | c::r,k+1=>aw c+before r k
def ZF(s:Int)(cs:List Cm):Prop:=∀ c∈cs,av c=0∧Ji c s≤1048576
theorem Yo(s:Int):∀ {cs:List Cm} {i:Nat} {c:Cm},cs[i]?=some c→first s cs (i+1)=first s cs i+Ji c s
 | [],i,c,h=>by simp at h
 | d::r,0,c,h=>by simp only [L2,Option.some.injEq] at h; subst h; cases r <;> simp [first]
 | d::r,i+1,c,h=>by
  simp only [LW] at h
  have:=Yo s h
  simp only [first,this]; omega
theorem jw:∀ {cs:List Cm} {i:Nat} {c:Cm},cs[i]?=some c→before cs (i+1)=before cs i+aw c
 | [],i,c,h=>by simp at h
 | d::r,0,c,h=>by simp only [L2,Option.some.injEq] at h; subst h; cases r <;> simp [before]
 | d::r,i+1,c,h=>by
  simp only [LW] at h
  have:=jw h
  simp only [before,this]; omega
theorem VG{s:Int}:∀ {cs:List Cm} (k:Nat),ZF s cs→0≤first s cs k
 | _,0,_=>by unfold first; omega
 | [],k+1,_=>by simp [first]
 | c::r,k+1,h=>by
  have h1:=Vc (s:=s) (h c Tc).1
  have h2:=VG (cs:=r) k (fun d hd=>h d (by simp [hd]))
  simp only [first]; omega
theorem YW{s:Int}{c:Cm}(h:av c=0∧Ji c s≤1048576):((chunks c s).length:Int)=Ji c s:=
 qz (Vc h.1).1 h.2
theorem oW{s:Int}:∀ {cs:List Cm} (b:Nat),ZF s cs→((steps s b cs).length:Int)=first s cs cs.length
 | [],b,_=>rfl
 | c::r,b,h=>by
  have h1:=YW (h c Tc)
  have h2:=oW (cs:=r) (b+1) (fun d hd=>h d (by simp [hd]))
  simp only [steps,Lc,Lj,Li,first]; omega
theorem iT{s:Int}:∀ {cs:List Cm} {b k i:Nat} {c:Cm},ZF s cs→cs[k]?=some c→first s cs k≤i→(i:Int)<first s cs (k+1)→(steps s b cs)[i]?=some (b+k,QW c s (i-first s cs k))
 | [],b,k,i,c,_,h,_,_=>by simp at h
 | d::r,b,0,i,c,hf,h,h1,h2=>by
  simp only [L2,Option.some.injEq] at h
  subst h
  have hl:=YW (hf d Tc)
  have e0:first s (d::r) 0=0:=rfl
  have e1:first s (d::r) (0+1)=Ji d s:=by cases r <;> simp [first]
  rw [e1] at h2
  rw [e0,Int.sub_zero]
  simp only [steps]
  rw [L3 (by rw [Lj]; omega),Lt,vR (by have:=(hf d Tc).2; omega) h2]
  rfl
 | d::r,b,k+1,i,c,hf,h,h1,h2=>by
  simp only [LW] at h
  have hl:=YW (hf d Tc)
  have hr:ZF s r:=fun x hx=>hf x (by simp [hx])
  have h0:=VG (s:=s) (cs:=r) k hr
  have e1:first s (d::r) (k+1)=Ji d s+first s r k:=rfl
  have e2:first s (d::r) (k+1+1)=Ji d s+first s r (k+1):=rfl
  rw [e1] at h1
  rw [e2] at h2
  have ih:=iT (b:=b+1) (i:=i-(chunks d s).length) hr h Ta Ta
  simp only [steps]
  rw [L6 (by rw [Lj]; omega),Lj,ih,e1]
  rw [show b+1+k=b+(k+1) by omega,show ((i-(chunks d s).length:Nat):Int)-first s r k=(i:Int)-(Ji d s+first s r k) by omega]
end Go.Pl
namespace Go.Cx
open Go
theorem Acc.MF{e es n cap g:Nat}{b:ag}{p:Tg}{cells:Ti}{w0 w:World}{X:Bs}{L:Tf}(h:Acc e es p n cap cells g b)(hm:Mem w0 w X L)(cR:(g,b)∈L):Rd w p cells:=by
 obtain ⟨j,hj⟩:=List.getElem?_of_mem cR
 exact h.rd hm j ((kP L j).trans hj)
def bh(B:Tf)(u8:Nat)(s:SB):Prop:=∃ g b,(g,b)∈B∧Acc u8 1 s.p s.bs.length s.cap (s.bs.flatMap Jk) g b
theorem bh.rd{B L:Tf}{u8:Nat}{s:SB}{w0 w:World}{X:Bs}(h:bh B u8 s)(hm:Mem w0 w X L)(hs:∀ e,e∈B→e∈L):Rd w s.p (s.bs.flatMap Jk):=by
 obtain ⟨g,b,h1,h2⟩:=h
 exact h2.MF hm (hs _ h1)
theorem bh.mono{B C:Tf}{u8:Nat}{s:SB}(h:bh B u8 s)(hs:∀ e,e∈B→e∈C):bh C u8 s:=by
 obtain ⟨g,b,h1,h2⟩:=h
 exact ⟨g,b,hs _ h1,h2⟩
theorem bh.left{B C:Tf}{u8:Nat}{s:SB}(h:bh B u8 s):bh (B++C) u8 s:=h.mono fun e he=>Lw _ he
theorem bh.right{B C:Tf}{u8:Nat}{s:SB}(h:bh C u8 s):bh (B++C) u8 s:=h.mono fun e he=>Ly _ he
theorem bh.le{B:Tf}{u8:Nat}{s:SB}(h:bh B u8 s):s.bs.length≤s.cap:=by
 obtain ⟨g,b,h1,h2⟩:=h
 exact h2.le
theorem bh.spot{B:Tf}{u8:Nat}{s:SB}(h:bh B u8 s)(hc:s.cap≠0):∀ ad,s.p=some ad→ad.spot=none:=by
 obtain ⟨g,b,h1,h2⟩:=h
 exact h2.spot hc
section
variable {w0 w w':World}{X:Bs}{L N1 N2:Tf}
theorem Mem.oX(h:Mem w0 w X L)(hc:Mem w w' No (N1++N2)):Mem w0 w' X (N1++(L++N2)):=by
 refine (h.Jt hc).perm ?_
 rw [Lp]
 exact List.Perm.append_left _ List.perm_append_comm
theorem Mem.VZ{q:Nat×ag}(h:Mem w0 w X L)(hc:Mem w w' No (q::N2)):Mem w0 w' X (q::(L++N2)):=Mem.oX (N1:=[q]) h hc
theorem Mem.Jp(h:Mem w0 w X L)(ks:List Nat)(c:Nat)(hk:(xw ks&&ks.all fun k=>Nat.blt k c)=true):Mem w0 w X (Zq L ks++L.drop c):=by
 simp only [LJ,List.all_eq_true,Nat.blt_eq] at hk
 have h1:=h.pick ks hk.1
 refine ⟨h.os,h.tape,h.output,h.size,h.same,fun p hp hr=>?_,fun p hp hr=>?_,?_⟩
 · rcases Ls.1 hp with hp | hp
   · exact h1.own p hp hr
   · exact h.own p (List.mem_of_mem_drop hp) hr
 · rcases Ls.1 hp with hp | hp
   · exact h1.fresh p hp hr
   · exact h.fresh p (List.mem_of_mem_drop hp) hr
 · rw [Qi,Kg]
   have hd:Mem w0 w X (L.drop c):=h.drop (List.drop_sublist c L)
   refine ⟨h1.nodup,hd.nodup,?_⟩
   intro a ha b hb e
   subst e
   obtain ⟨x,hx,hxr⟩:=JD.1 ha
   obtain ⟨y,hy,hyr⟩:=JD.1 hb
   obtain ⟨k,hkm,Cg⟩:=X3 L ks _ hx
   have aX:=hk.2 k hkm
   obtain ⟨j,hj,Bi⟩:=LU hy
   rw [List.getElem_drop] at Bi
   have ZY:aR L (c+j)=some (a,y):=by rw [kP,← Bi]; exact La (by simp at hj; omega)
   exact X2 L k (c+j) a a x y h.nodup Cg ZY hxr hyr Ta rfl
end
theorem Acc.QB{α:Type}{enc:α→Ti}{e es n cap g:Nat}{b:ag}{p:Tg}{xs:List α}(h:Acc e es p n cap (xs.flatMap enc) g b)(he:∀ x,(enc x).length=es)(h0:0<es):n=xs.length:=by
 have:=h.len
 rw [JW he] at this
 exact (Nat.eq_of_mul_eq_mul_right h0 this).symm
theorem Acc.held{u8 n cap g:Nat}{b:ag}{p:Tg}{bs:Th}(h:Acc u8 1 p n cap (bs.flatMap Jk) g b){B:Tf}(cR:(g,b)∈B):bh B u8 ⟨p,cap,bs⟩:=⟨g,b,cR,by rw [← h.J0]; exact h⟩
def jx(c:Pl.Cm)(p:Tg)(cap:Nat):aa:=⟨c.k,c.to,c.fr,c.ln,⟨p,cap,c.bs⟩⟩
theorem RY:∀ xs:List aa,(xs.flatMap JM).all (·.oneCell')=true
 | []=>rfl
 | x::r=>by simp only [Lk,List.all_append,RY r,Bool.and_true]; rfl
theorem jal(xs:List aa):(xs.flatMap JM).length=xs.length*5:=JW Jf xs
theorem Mem.Gp{w0 w:World}{X:Bs}{L:Tf}(h:Mem w0 w X L)(k:Nat){q:Nat×ag}(hk:aR L k=some q):Mem w0 w X (L.eraseIdx k++[q]):=
 h.perm ((gu L k q hk).trans (List.perm_append_comm (l₁:=[q])))
theorem qB{B:Tf}{q:Nat×ag}{u8:Nat}{xs:List aa}{x:aa}(h:∀ x∈xs,bh B u8 x.d)(hx:bh (B++[q]) u8 x.d):∀ y∈xs++[x],bh (B++[q]) u8 y.d:=fun y hy=>by
 rcases Ls.1 hy with hy | hy
 · exact (h y hy).left
 · rw [Lf.1 hy]; exact hx
end Go.Cx
namespace Go.Cx
open Go
def Ks.lpD{ι:Type}(k:Ks)(Sx:ι→Tk)(M:ι→World→Prop)(μ:ι→Nat)(Dx:ι→List Deferred)(x:ι)(n:Nat):Ks:={ k with norm:=fun a w=>∃ y,μ y<μ x∧M y w∧Fr a n (Dx y) (Sx y) }
section
variable {P:Program}{r:Option Nat}{c:Code}{k:Ks}{n:Nat}{D:List Deferred}{S:Tk}{w:World}
instance {ι:Type}{k:Ks}[h:cH k]{Sx:ι→Tk}{M:ι→World→Prop}{μ:ι→Nat}{Dx:ι→List Deferred}{x:ι}{n:Nat}:cH (k.lpD Sx M μ Dx x n):=⟨h.put⟩
end
section
variable {P:Program}{n:Nat}{S:Tk}{w w0:World}{X:Bs}{L:Tf}
end
end Go.Cx
namespace Go.Cx
open Go
theorem oY:∀ (L:Tf) (k:Nat) (q:Nat×ag),aR L k=some q→QQ L k q=L
 | [],k,q,h=>by simp [aR] at h
 | x::r,0,q,h=>by simp only [aR,Option.some.injEq] at h; subst h; rfl
 | x::r,k+1,q,h=>by simp only [QQ]; rw [oY r k q h]
section
variable {P:Program}{r:Option Nat}{k:Ks}{ops:Array Oper}{md:Md}{n:Nat}{D:List Deferred}{S:Tk}{w:World}{i:Nat}{t:Tr}
variable {ty:TypeId}{pos:String}{af:Array Edge}{g:Option (Nat×Bool)}{dst:Option Tmp}{d:Nat}{w0:World}{X:Bs}{L:Tf}
end
end Go.Cx
namespace Go.Cx
open Go
theorem YQ{cs:List aa}{f:Th}(hc:∀ c∈cs,Pl.av c.cm=0)(hf:∀ c∈cs,Pl.bz f.length c.cm=true)(i:Nat):(((cs.map aa.cm).take i).foldl Pl.ju f).length=f.length:=by
 refine Pl.lP (fun d hd=>?_) ?_
 · obtain ⟨c,lQ,rfl⟩:=Ln.1 (List.mem_of_mem_take hd)
   exact hc c lQ
 · rw [List.all_eq_true]
   intro d hd
   obtain ⟨c,lQ,rfl⟩:=Ln.1 (List.mem_of_mem_take hd)
   exact hf c lQ
end Go.Cx
namespace Go.Cx
open Go
def J2(s:Int)(cs:List Pl.Cm):List Int:=(List.range (cs.length+1)).map (Pl.first s cs)
def beforeL(cs:List Pl.Cm):List Int:=(List.range (cs.length+1)).map (Pl.before cs)
theorem Xx(s:Int)(cs:List Pl.Cm):(J2 s cs).length=cs.length+1:=by simp [J2]
theorem ZD{s:Int}{cs:List Pl.Cm}{k:Nat}(h:k≤cs.length):(J2 s cs)[k]?=some (Pl.first s cs k):=by
 unfold J2
 rw [Lt,List.getElem?_range Ta]
 rfl
def nmV(s:Int)(pf:Tg)(n cf:Nat)(pb:Tg)(cb:Nat):List Value:=[.int .i64 s,.slice pf n cf,.slice pb n cb]
def MG(s:Int)(pf:Tg)(n cf:Nat)(pb:Tg)(cb:Nat)(pl:Tg)(m cl:Nat):List Value:=[.int .i64 s,.slice pf n cf,.slice pb n cb,.slice pl m cl]
theorem MH{i j:Nat}(h:i+j≤9223372036854775807):((i:Int)+j).fdiv (2 ^ (min (1:Int).toNat 64))=((i+j)/2:Nat):=by
 rw [show (min (1:Int).toNat 64)=1 by decide,Int.fdiv_eq_ediv_of_nonneg _ Tb]
 omega
theorem sU(s:Int):∀ (cs:List Pl.Cm),Pl.ZF s cs→∀ k,Pl.first s cs k≤Pl.first s cs (k+1)
 | [],_,k=>by cases k <;> simp [Pl.first]
 | c::r,h,0=>by
  have:=Pl.Vc (s:=s) (h c Tc).1
  cases r <;> simp [Pl.first] <;> omega
 | c::r,h,k+1=>by
  have:=sU s r (fun d hd=>h d (by simp [hd])) k
  simp only [Pl.first]; omega
theorem oZ{s:Int}{cs:List Pl.Cm}(h:Pl.ZF s cs){j k:Nat}(vm:j≤k):Pl.first s cs j≤Pl.first s cs k:=by
 induction k with
 | zero=>
  obtain rfl:j=0:=by omega
  exact Int.le_refl _
 | succ k ih=>
  rcases L7 j (k+1) with hl | hg
  · exact Int.le_trans (ih Ta) (sU s cs h k)
  · obtain rfl:j=k+1:=by omega
    exact Int.le_refl _
theorem zy{s:Int}{cs:List Pl.Cm}(h:Pl.ZF s cs)(i:Int):∀ j k,j≤k→decide (i<Pl.first s cs (j+1))=true→decide (i<Pl.first s cs (k+1))=true:=fun j k vm hj=>by
 have:=oZ h (j:=j+1) (k:=k+1) Ta
 simp only [LO] at hj ⊢
 omega
theorem zz{s:Int}{cs:List Pl.Cm}{i:Int}{r:Nat}(h0:0≤i)(h1:i<Pl.first s cs cs.length)(hr:r≤cs.length)(lv:∀ j,j<r→decide (i<Pl.first s cs (j+1))=false)(lx:r<cs.length→decide (i<Pl.first s cs (r+1))=true):r<cs.length∧Pl.first s cs r≤i∧i<Pl.first s cs (r+1):=by
 have e0:Pl.first s cs 0=0:=by unfold Pl.first; rfl
 have jam:Pl.first s cs r≤i:=by
  cases r with
  | zero=>rw [e0]; exact h0
  | succ r=>have:=lv r Ta; simp only [decide_eq_false_iff_not] at this; omega
 have aX:r<cs.length:=by
  rcases L7 r cs.length with h | h
  · exact h
  · obtain rfl:r=cs.length:=by omega
    omega
 exact ⟨aX,jam,by simpa using lx aX⟩
section
variable {P:Program}{md:Md}{n:Nat}{D:List Deferred}{S:Tk}{w:World}
variable {ty:TypeId}{pos:String}{af:Array Edge}{g:Option (Nat×Bool)}{dst:Option Tmp}
theorem vU{α:Type}{enc:α→Ti}{xs:List α}{t:TypeId}{x:Operand}{b o i es fo m:Nat}{el:α}{vs:Ti}(hx:ev S x=some (.pointer (some ⟨b,o+i*es+fo,none⟩)))(hs:nW P t=some m)(hR:∀ u,cN md w u→Rd u (some ⟨b,o,none⟩) (xs.flatMap enc))
 (he:∀ x,(enc x).length=es) (hi:xs[i]?=some el) (hv:((enc el).drop fo).take m=vs) (hl:vs.length=m):∀ a,Fr a n D S→Yl P md w a ⟨dst,.load t x,ty,pos,af,g⟩ (.agg ⟨vs⟩):=
 si hx hs hl fun u hu j v hj=>by
  have hjm:j<m:=by rw [← hl]; exact (Le.1 hj).1
  rw [← hv,LF,LI hjm,Kc] at hj
  have aX:fo+j<es:=by rw [← he el]; exact (Le.1 hj).1
  have:=(hR u hu).2 (i*es+(fo+j)) v (by rw [YR he xs i (fo+j) el hi aX]; exact hj)
  rw [← Nat.add_assoc,← Nat.add_assoc] at this
  exact this
end
structure SB.jO(W:World)(s:SB):Prop where
 rd:Rd W s.p (s.bs.flatMap Jk)
 le:s.bs.length≤s.cap
 spot:s.cap≠0→∀ ad,s.p=some ad→ad.spot=none
theorem SB.jO.ext{w w':World}{s:SB}(h:s.jO w)(hx:Ext No w w'):s.jO w':=⟨h.rd.Jj hx,h.le,h.spot⟩
theorem SB.ok.n{w:World}{s:SB}(h:s.ok w):s.jO w:=⟨h.rd,h.le,h.spot⟩
theorem bh.jO{B L:Tf}{u8:Nat}{s:SB}{w0 w:World}{X:Bs}(h:bh B u8 s)(hm:Mem w0 w X L)(hs:∀ e,e∈B→e∈L):s.jO w:=⟨h.rd hm hs,h.le,h.spot⟩
end Go.Cx
namespace Go.Pl
def targets(cs:List Cm):List (Int×Int):=cs.map fun c=>(c.to,aw c)
theorem vV{cs:List Cm}(h:∀ c∈cs,av c=0):∀ x∈targets cs,ZZ x:=fun x hx=>by
 obtain ⟨c,hc,rfl⟩:=Ln.1 hx
 have:=Jl (h c hc)
 simp only [ZZ]; omega
theorem gE:∀ {cs:List Cm} {n T:Int},total n (targets cs)=some T→n≤4611686018427387903→(∀ c∈cs,0≤aw c)→∀ k,0≤before cs k∧n+before cs k≤4611686018427387903
 | cs,n,T,h,hn,hc,0=>by simp [before,hn]
 | [],n,T,h,hn,hc,k+1=>by simp [before,hn]
 | c::r,n,T,h,hn,hc,k+1=>by
  simp only [targets,Ka,total] at h
  split at h
  · cases h
  · rename_i hle
    have:=gE (cs:=r) h Ta (fun d hd=>hc d (by simp [hd])) k
    have ai:=hc c Tc
    simp only [before]; omega
theorem Ch{α:Type}{f:Nat→α}{i k:Nat}(h:k≤i):((List.range (i+1)).map f)[k]?=some (f k):=by
 rw [Lt,List.getElem?_range Ta]; rfl
def part(st:List (Nat×Cm))(a k:Nat):List Cm:=((st.drop a).take k).map (·.2)
def bytesOf(f:Th)(d:Cm):Option Th:=if d.k=1 then (if d.fr+d.ln≤f.length then some ((f.drop d.fr.toNat).take d.ln.toNat) else none) else some d.bs
end Go.Pl
namespace Go.Cx
open Go
abbrev o9(e:TypeId)(l:Ti):ag:=.obj (.cells ⟨l⟩ e (l.length,l.length+1))
theorem Rd.o9{w:World}{g:Nat}{e:TypeId}{l:Ti}(h:w.heap[g]?=some (o9 e l).Jd):Rd w (some ⟨g,0,none⟩) l:=by
 refine ⟨fun _=>rfl,fun j v hj=>?_⟩
 simp only [World.cell?,h,ag.Jd,LV]
 simpa using hj
def zA(P:Program)(t:TypeId):Bool:=match P.underlying t with | some (.slice e)=>(match P.underlying e with | some (.int .u8)=>true | _=>false) | _=>false
theorem zB{P:Program}{t:TypeId}(h:zA P t=true):∃ e,P.underlying t=some (.slice e)∧P.underlying e=some (.int .u8):=by
 unfold zA at h
 split at h
 · rename_i e he
   split at h
   · rename_i h'; exact ⟨e,he,h'⟩
   · cases h
 · cases h
theorem xD{P:Program}{w:World}{t e:TypeId}{m n c:Nat}{l:Ti}(ht:zA P t=true)(h:w.heap[m]?=some (ag.row e l).Jd) :
 ∃ w',(convert t t (.slice (some ⟨m,0,none⟩) n c)).run P w=.ok (.slice (some ⟨m,0,none⟩) n c) w'∧w'.heap.size=w.heap.size∧w'.os=w.os∧w'.tape=w.tape∧w'.output=w.output∧w'.heap[m]?=some (o9 e l).Jd∧∀ j,j≠m→w'.heap[j]?=w.heap[j]?:=by
 obtain ⟨e',h1,h2⟩:=zB ht
 have hsh:w.shape? m=some (e,l.length):=by
  unfold World.shape?; rw [h]; rfl
 refine ⟨w.freeze ⟨m,l.length,none⟩ 1,?_,?_,?_,?_,?_,?_,?_⟩
 · simp [convert,run_underlying h1,run_underlying h2,markStringish,hsh]
 · simp [World.freeze]
 · simp [World.freeze]
 · simp [World.freeze]
 · simp [World.freeze]
 · simp only [World.freeze,Nat.one_ne_zero,if_false,Array.getElem?_modify,if_true,h,ag.Jd]
   rfl
 · intro j hj
   simp only [World.freeze,Nat.one_ne_zero,if_false,Array.getElem?_modify]
   rw [LH (fun e=>hj e.symm)]
section
variable {P:Program}{r:Option Nat}{k:Ks}{ops:Array Oper}{md:Md}{n:Nat}{D:List Deferred}{S:Tk}{w:World}{i:Nat}{t:Tr}
variable {ty:TypeId}{pos:String}{af:Array Edge}{g:Option (Nat×Bool)}{dst:Option Tmp}{d:Nat}{w0:World}{X:Bs}{L:Tf}
theorem xE{T e:TypeId}{x:Operand}{m c1 c2:Nat}{l:Ti}(ho:eL ops S i=some (⟨dst,.convert T T x,ty,pos,af,g⟩,d))(hd:Nat.blt d n=true)(hx:ev S x=some (.slice (some ⟨m,0,none⟩) c1 c2))(hT:zA P T=true)
 (hm:Mem w0 w X L) (j:Nat) (hk:aR L j=some (m,.row e l)) (h:∀ w',Mem w0 w' X (Qr L j (o9 e l))→HR P r k ops none n D ((d,.slice (some ⟨m,0,none⟩) c1 c2)::S) t w'):HR P r k ops none n D S (.act i t) w:=by
 obtain ⟨w',h1,h2,h3,h4,h5,h6,h7⟩:=xD (n:=c1) (c:=c2) hT (hm.get hk)
 refine Vv (w':=w') ho hd rfl (fun a hf=>?_) trivial (h w' (hm.set hk _ h3 h4 h5 h2 h6 h7))
 simp [execOp,hf.eval hx,h1]
theorem XT{b:World}{Y:Bs}{T e:TypeId}{x:Operand}{m c1 c2:Nat}{l:Ti}(ho:eL ops S i=some (⟨dst,.convert T T x,ty,pos,af,g⟩,d))(hd:Nat.blt d n=true)(hx:ev S x=some (.slice (some ⟨m,0,none⟩) c1 c2))(hT:zA P T=true)
 (hm:Mem w0 w X L) (j:Nat) (hk:aR L j=some (m,.row e l)) (hh:aQ (some (b,Y)) w) (hg:Ft (some (b,Y)) m) (h:∀ w',Mem w0 w' X (Qr L j (o9 e l))→aQ (some (b,Y)) w'→HR P r k ops (some (b,Y)) n D ((d,.slice (some ⟨m,0,none⟩) c1 c2)::S) t w'):HR P r k ops (some (b,Y)) n D S (.act i t) w:=by
 obtain ⟨w',h1,h2,h3,h4,h5,h6,h7⟩:=xD (n:=c1) (c:=c2) hT (hm.get hk)
 have qm:Ext Y b w:=hh
 have fM:aQ (some (b,Y)) w':=⟨h3.trans qm.os,h4.trans qm.tape,h5.trans qm.output,by rw [h2]; exact qm.size,fun q hq hY=>by
  have hg':b.heap.size≤m:=hg
  rw [h7 q Ta]; exact qm.same q hq hY⟩
 refine Vv (w':=w') ho hd rfl (fun a hf=>?_) fM (h w' (hm.set hk _ h3 h4 h5 h2 h6 h7) fM)
 simp [execOp,hf.eval hx,h1]
end
def xF(x:Int×Int×Nat):MapEntry:={ key:=.int .i64 x.1,val:=.int .i64 x.2.1,born:=x.2.2 }
abbrev ep(es:List (Int×Int×Nat))(ck:Nat):ag:=.obj (.map ⟨es.map xF⟩ ck)
def XO(k:Int):List (Int×Int×Nat)→Nat→Option (Nat×Int)
 | [],_=>none
 | x::r,i=>if k=x.1 then some (i,x.2.1) else XO k r (i+1)
def QJ(es:List (Int×Int×Nat))(k:Int):Option Int:=(XO k es 0).map (·.2)
def Zs(k v:Int):List (Int×Int×Nat)→List (Int×Int×Nat)
 | []=>[]
 | x::r=>if k=x.1 then (k,v,x.2.2)::r else x::Zs k v r
def Zr(es:List (Int×Int×Nat))(ck:Nat)(k v:Int):List (Int×Int×Nat):=if (XO k es 0).isSome then Zs k v es else es++[(k,v,ck)]
theorem lS{k:Int}:∀ (es:List (Int×Int×Nat)) (i:Nat),Instr.findNow (.int .i64) (.int .i64 k) (es.map xF) i=some ((XO k es i).map fun x=>(x.1,.int .i64 x.2))
 | [],i=>rfl
 | x::r,i=>by
  simp only [Ka,Instr.findNow,XO]
  show (match Instr.sameNow (.int .i64) (.int .i64 k) (.int .i64 x.1) with | some true=>_ | some false=>_ | none=>_)=_
  simp only [Instr.sameNow,if_true]
  by_cases h:k=x.1
  · simp [h,xF]
  · have:(k==x.1)=false:=by simpa using h
    simp only [this,LH h]
    exact lS r (i+1)
theorem iU{k:Int}:∀ {es:List (Int×Int×Nat)} {i j:Nat} {v:Int},XO k es i=some (j,v)→i≤j∧∃ x,es[j-i]?=some x∧x.1=k∧(es.map xF).modify (j-i) (fun e=>{ e with key:=.int .i64 k,val:=.int .i64 v })=(Zs k v es).map xF
 | [],i,j,v,h=>by simp [XO] at h
 | x::r,i,j,v,h=>by
  simp only [XO] at h
  split at h
  · rename_i hk
    simp only [Option.some.injEq,Prod.mk.injEq] at h
    obtain ⟨rfl,rfl⟩:=h
    refine ⟨LP _,x,Tc,hk.symm,?_⟩
    simp [Zs,hk,xF,List.modify]
  · rename_i hk
    obtain ⟨h1,y,h2,h3,h4⟩:=iU h
    refine ⟨Ta,y,?_,h3,?_⟩
    · rw [show j-i=(j-(i+1))+1 by omega]; exact h2
    · rw [show j-i=(j-(i+1))+1 by omega]
      simp only [Ka,Zs,LH hk,List.modify_succ_cons]
      rw [← h4]
theorem pg{k v u:Int}:∀ {es:List (Int×Int×Nat)} {i j:Nat},XO k es i=some (j,u)→(es.map xF).modify (j-i) (fun e=>{ e with key:=.int .i64 k,val:=.int .i64 v })=(Zs k v es).map xF
 | [],i,j,h=>by simp [XO] at h
 | x::r,i,j,h=>by
  simp only [XO] at h
  split at h
  · rename_i hk
    simp only [Option.some.injEq,Prod.mk.injEq] at h
    obtain ⟨rfl,rfl⟩:=h
    simp [Zs,hk,xF,List.modify]
  · rename_i hk
    have h1:=(iU h).1
    have h4:=pg (v:=v) h
    rw [show j-i=(j-(i+1))+1 by omega]
    simp only [Ka,Zs,LH hk,List.modify_succ_cons]
    rw [← h4]
theorem xG{k:Int}:∀ (es:List (Int×Int×Nat)) (i j:Nat),(XO k es i).map (·.2)=(XO k es j).map (·.2)
 | [],_,_=>rfl
 | x::r,i,j=>by
  simp only [XO]
  split
  · rfl
  · exact xG r _ _
theorem QA(x:Int×Int×Nat)(r:List (Int×Int×Nat))(k:Int):QJ (x::r) k=if k=x.1 then some x.2.1 else QJ r k:=by
 unfold QJ
 simp only [XO]
 split
 · rfl
 · exact xG r 1 0
theorem lT{k v:Int}:∀ {es:List (Int×Int×Nat)},(QJ es k).isSome=true→∀ j,QJ (Zs k v es) j=if j=k then some v else QJ es j
 | [],h,j=>by simp [QJ,XO] at h
 | x::r,h,j=>by
  rw [QA] at h
  unfold Zs
  by_cases hk:k=x.1
  · rw [LI hk,QA,QA]
    by_cases hj:j=k
    · simp [hj]
    · rw [LH hj,LH hj,LH (by rw [← hk]; exact hj)]
  · rw [LH hk] at h ⊢
    rw [QA,QA,lT h j]
    by_cases hj:j=x.1
    · rw [LI hj,LH (by rw [hj]; exact fun e=>hk e.symm),LI hj]
    · rw [LH hj,LH hj]
theorem lU{k v:Int}{c:Nat}:∀ {es:List (Int×Int×Nat)},QJ es k=none→∀ j,QJ (es++[(k,v,c)]) j=if j=k then some v else QJ es j
 | [],_,j=>by rw [L4,QA]
 | x::r,h,j=>by
  rw [QA] at h
  split at h
  · cases h
  · rename_i hk
    rw [List.cons_append,QA,QA,lU h j]
    by_cases hj:j=x.1
    · rw [LI hj,LH (by rw [hj]; exact fun e=>hk e.symm),LI hj]
    · rw [LH hj,LH hj]
theorem vW(es:List (Int×Int×Nat))(c:Nat)(k v j:Int):QJ (Zr es c k v) j=if j=k then some v else QJ es j:=by
 have e:(XO k es 0).isSome=(QJ es k).isSome:=by unfold QJ; cases XO k es 0 <;> rfl
 unfold Zr
 split
 · rename_i h; exact lT (by rw [← e]; exact h) j
 · rename_i h
   refine lU ?_ j
   rw [e] at h
   simpa using h
def gF(P:Program)(t:TypeId):Bool:=match P.underlying t with
 | some (.map k e)=>(match P.underlying k with | some (.int .i64)=>true | _=>false)&&(match P.info? e with | some i=>(match i.zero with | some (.int .i64 0)=>true | _=>false) | none=>false)
 | _=>false
theorem ZC{P:Program}{t:TypeId}(h:gF P t=true):∃ k e,P.underlying t=some (.map k e)∧P.underlying k=some (.int .i64)∧∀ w:World,(zeroValue e).run P w=.ok (.int .i64 0) w:=by
 unfold gF at h
 split at h
 · rename_i k e hu
   simp only [LJ] at h
   refine ⟨k,e,hu,?_,fun w=>?_⟩
   · have:=h.1
     split at this
     · rename_i h'; exact h'
     · cases this
   · have h1:=h.2
     split at h1
     · rename_i i hi
       split at h1
       · rename_i hz
         simp [zeroValue,typeInfo,hi,hz]
       · cases h1
     · cases h1
 · cases h
section
variable {P:Program}{u:World}{m:Nat}{es:List (Int×Int×Nat)}{ck:Nat}{T:TypeId}
theorem run_checkKey{b:Bool}{n:Nat}{t:TypeId}{v:Value}(h:P.underlying t=some (.int .i64)):(Instr.checkKey b (n+1) t v).run P u=.ok () u:=by
 unfold Instr.checkKey
 simp [run_underlying h]
theorem run_findKey{t:TypeId}{k:Int}(h:P.underlying t=some (.int .i64)):(Instr.findKey t (.int .i64 k) (es.map xF)).run P u=.ok ((XO k es 0).map fun x=>(x.1,.int .i64 x.2)) u:=by
 unfold Instr.findKey
 simp [run_underlying h,lS]
theorem vX{k:Int}(hT:gF P T=true)(h:u.heap[m]?=some (ep es ck).Jd):(Instr.lookup T (.map (some m)) (.int .i64 k) true).run P u=.ok (.tuple #[.int .i64 ((QJ es k).getD 0),.bool (QJ es k).isSome]) u:=by
 obtain ⟨kt,et,h1,h2,h3⟩:=ZC hT
 unfold Instr.lookup
 have h4:(getObj m).run P u=.ok (.map ⟨es.map xF⟩ ck) u:=J6 (P:=P) h rfl
 have h5:∀ b,(Instr.checkKey b 10000 kt (.int .i64 k)).run P u=.ok () u:=fun b=>run_checkKey (n:=9999) h2
 have h6:=run_findKey (P:=P) (u:=u) (es:=es) (k:=k) h2
 simp [run_underlying h1,h4]
 unfold QJ
 cases hx:XO k es 0 with
 | none=>rw [hx] at h6; simp [h5,h6,h3]
 | some x=>rw [hx] at h6; simp [h5,h6]
theorem nZ{k v:Int}(hT:gF P T=true)(h:u.heap[m]?=some (ep es ck).Jd):∃ RZ,(Instr.mapUpdate T (.map (some m)) (.int .i64 k) (.int .i64 v)).run P u=.ok () { u with heap:=u.heap.setIfInBounds m (ep (Zr es ck k v) RZ).Jd }:=by
 obtain ⟨kt,et,h1,h2,h3⟩:=ZC hT
 unfold Instr.mapUpdate
 have h4:(getObj m).run P u=.ok (.map ⟨es.map xF⟩ ck) u:=J6 (P:=P) h rfl
 have h5:=run_checkKey (P:=P) (u:=u) (b:=false) (n:=9999) (v:=.int .i64 k) h2
 have h6:=run_findKey (P:=P) (u:=u) (es:=es) (k:=k) h2
 cases hx:XO k es 0 with
 | none=>
  refine ⟨ck+1,?_⟩
  have h7:=QE (P:=P) (o':=(ep (Zr es ck k v) (ck+1)).Jd) h rfl
  rw [hx] at h6
  simp only [Zr,hx,Option.isSome_none,L0,if_false,ag.Jd] at h7 ⊢
  simp [run_underlying h1,h4,h5,h6]
  rw [Lx] at h7
  exact h7
 | some x=>
  obtain ⟨i,w⟩:=x
  refine ⟨ck,?_⟩
  obtain ⟨_,y,hy,Bj,_⟩:=iU hx
  have sV:=pg (v:=v) hx
  rw [Nat.sub_zero] at hy sV
  have h7:=QE (P:=P) (o':=(ep (Zr es ck k v) ck).Jd) h rfl
  rw [hx] at h6
  simp only [Zr,hx,Option.isSome_some,if_true,ag.Jd] at h7 ⊢
  simp [run_underlying h1,h4,h5,h6,hy,xF,Bj,Instr.keyThatStays,Instr.sameBits]
  rw [← h7]
  rw [← sV]
  try simp
theorem qC{ty:TypeId}(hT:gF P T=true)(h:u.heap[m]?=some (ep es ck).Jd):(Builtin.clear_ #[T] ty #[.map (some m)]).run P u=.ok (.tuple #[]) { u with heap:=u.heap.setIfInBounds m (ep [] ck).Jd }:=by
 obtain ⟨kt,et,h1,h2,h3⟩:=ZC hT
 unfold Builtin.clear_
 have h4:(getObj m).run P u=.ok (.map ⟨es.map xF⟩ ck) u:=J6 (P:=P) h rfl
 have h7:=QE (P:=P) (o':=(ep [] ck).Jd) h rfl
 simp only [ag.Jd,List.map_nil] at h7
 simp [run_underlying h1,h4,h7,ag.Jd]
end
section
variable {P:Program}{r:Option Nat}{k:Ks}{ops:Array Oper}{md:Md}{n:Nat}{D:List Deferred}{S:Tk}{w:World}{i:Nat}{t:Tr}
variable {ty:TypeId}{pos:String}{af:Array Edge}{g:Option (Nat×Bool)}{dst:Option Tmp}{d:Nat}{w0:World}{X:Bs}{L:Tf}
theorem Ci{T:TypeId}{x y:Operand}{m ck:Nat}{kk:Int}{es:List (Int×Int×Nat)}(hx:ev S x=some (.map (some m)))(hy:ev S y=some (.int .i64 kk))(hT:gF P T=true)(hN:∀ u,cN md w u→u.heap[m]?=some (ep es ck).Jd) :
 ∀ a,Fr a n D S→Yl P md w a ⟨dst,.lookup T x y true,ty,pos,af,g⟩ (.tuple ⟨[.int .i64 ((QJ es kk).getD 0),.bool (QJ es kk).isSome]⟩):=fun a hf u hu=>by
 simp [execOp,hf.eval hx,hf.eval hy,vX hT (hN u hu)]
theorem sX{T:TypeId}{x y z:Operand}{m ck:Nat}{kk v:Int}{es:List (Int×Int×Nat)}(ho:j7 ops S i=some ⟨dst,.mapUpdate T x y z,ty,pos,af,g⟩)(hx:ev S x=some (.map (some m)))(hy:ev S y=some (.int .i64 kk))(hz:ev S z=some (.int .i64 v))(hT:gF P T=true)
 (hm:Mem w0 w X L) (j:Nat) (hk:aR L j=some (m,ep es ck)) (h:∀ RZ w',Mem w0 w' X (Qr L j (ep (Zr es ck kk v) RZ))→HR P r k ops none n D S t w'):HR P r k ops none n D S (.act i t) w:=by
 obtain ⟨RZ,h1⟩:=nZ (P:=P) (T:=T) (k:=kk) (v:=v) hT (hm.get hk)
 refine oK ho rfl (fun a hf=>?_) trivial (h RZ _ (hm.setObj hk))
 simp [execOp,hf.eval hx,hf.eval hy,hf.eval hz,h1]
 rfl
theorem zC{T:TypeId}(ho:eL ops S i=some (⟨dst,.makeMap T none,ty,pos,af,g⟩,d))(hd:Nat.blt d n=true)(hm:Mem w0 w X L)(hh:aQ md w)
 (h:∀ m w',Ft md m→Mem w0 w' X ((m,ep [] 0)::L)→aQ md w'→HR P r k ops md n D ((d,.map (some m))::S) t w'):HR P r k ops md n D S (.act i t) w:=by
 have fM:aQ md (w.alloc (ep [] 0).Jd):=hh.ext (Qx _ _)
 refine Vv (w':=w.alloc (ep [] 0).Jd) ho hd rfl (fun a hf=>?_) fM (h _ _ hh.geq (hm.alloc _) fM)
 simp [execOp,Instr.makeMap,newObj]
 rfl
end
end Go.Cx
namespace Go.Cx
open Go
end Go.Cx
namespace Go.Pl
abbrev Wr:=Nat×List UInt8
structure Dv where
 sz:Nat
 cnt:Nat
 dk:Th
 wr:Int
 kp:Int
 sW:Int
 sF:Int
 sC:Int
 sH:Int
 sM:Int
 ca:List Wr
 dn:Bool
def jP(sz:Nat)(f:Th)(c:Wr):List UInt8:=put f (c.1*sz) c.2
def gG(kp:Int)(k:Nat):Bool:=decide (IntKind.u64.wrap (BitVec.ofInt IntKind.u64.bits (kp.fdiv (2 ^ (min ((k:Int).tmod 64).toNat IntKind.u64.bits))) &&& BitVec.ofInt IntKind.u64.bits 1).toNat=1)
def dr(sz:Nat)(keep:Nat→Bool):Nat→Th→List Wr→List UInt8
 | _,f,[]=>f
 | k,f,c::r=>dr sz keep (k+1) (bif keep k then jP sz f c else f) r
def contents(D:Dv):List UInt8:=D.ca.foldl (jP D.sz) D.dk
def jan(D:Dv)(c:Wr):Prop:=c.1<D.cnt∧c.2.length=D.sz
structure okDv(D:Dv):Prop where
 sz:1≤D.sz
 len:D.dk.length=D.cnt*D.sz
 cnt:1≤D.cnt
 max:D.cnt*D.sz≤1048576
 ca:∀ c∈D.ca,jan D c
 wr:-1≤D.wr∧D.wr≤9223372036854775807
 kp:0≤D.kp∧D.kp≤18446744073709551615
 st:aA D.sH∧aA D.sM
theorem V9{sz cnt i:Nat}(h:i<cnt):i*sz+sz≤cnt*sz:=by
 have:(i+1)*sz≤cnt*sz:=Lr _ h
 rw [Kh,Nat.one_mul] at this
 exact this
theorem Cj{sz cnt:Nat}{f:Th}{c:Wr}(hf:f.length=cnt*sz)(h:c.1<cnt)(hl:c.2.length=sz):(jP sz f c).length=f.length:=by
 unfold jP
 exact Xq (by rw [hf,hl]; exact V9 h)
theorem Xr{sz cnt:Nat}{keep:Nat→Bool}:∀ {l:List Wr} {k:Nat} {f:Th},f.length=cnt*sz→(∀ c∈l,c.1<cnt∧c.2.length=sz)→(dr sz keep k f l).length=f.length
 | [],_,_,_,_=>rfl
 | c::r,k,f,hf,h=>by
  have hc:=h c Tc
  have hl:=Cj hf hc.1 hc.2
  unfold dr
  cases keep k with
  | false=>exact Xr hf fun d hd=>h d (by simp [hd])
  | true=>exact (Xr (hl.trans hf) fun d hd=>h d (by simp [hd])).trans hl
theorem sY(sz:Nat)(keep:Nat→Bool):∀ (a b:List Wr) (k:Nat) (f:Th),dr sz keep k f (a++b)=dr sz keep (k+a.length) (dr sz keep k f a) b
 | [],b,k,f=>rfl
 | c::r,b,k,f=>by
  simp only [List.cons_append,dr,Li]
  rw [sY sz keep r b (k+1) _,show k+1+r.length=k+(r.length+1) by omega]
theorem ph{sz:Nat}{keep:Nat→Bool}{l:List Wr}{f:Th}{i:Nat}{c:Wr}(h:l[i]?=some c):dr sz keep 0 f (l.take (i+1))=bif keep i then jP sz (dr sz keep 0 f (l.take i)) c else dr sz keep 0 f (l.take i):=by
 have hl:=(Le.1 h).1
 rw [LC,h,sY,Lg,Nat.min_eq_left Ta,LV]
 rfl
theorem lV(sz:Nat):∀ (l:List Wr) (k:Nat) (f:Th),dr sz (fun _=>true) k f l=l.foldl (jP sz) f
 | [],_,_=>rfl
 | c::r,k,f=>by simp only [dr,cond_true,List.foldl_cons]; exact lV sz r (k+1) _
theorem Xl(sz:Nat):∀ (l:List Wr) (k:Nat) (f:Th),dr sz (fun _=>false) k f l=f
 | [],_,_=>rfl
 | c::r,k,f=>by simp only [dr,cond_false]; exact Xl sz r (k+1) _
def YL(k:Int):Nat→Option Int→List Wr→Option Int
 | _,a,[]=>a
 | i,a,c::r=>YL k (i+1) (if (c.1:Int)=k then some (i:Int) else a) r
def Yn(l:List Wr)(k:Int):Option Int:=YL k 0 none l
theorem lW(k:Int):∀ (l m:List Wr) (i:Nat) (a:Option Int),YL k i a (l++m)=YL k (i+l.length) (YL k i a l) m
 | [],m,i,a=>rfl
 | c::r,m,i,a=>by
  simp only [List.cons_append,YL,Li]
  rw [lW k r m (i+1) _,show i+1+r.length=i+(r.length+1) by omega]
theorem lX(l:List Wr)(c:Wr)(k:Int):Yn (l++[c]) k=if k=(c.1:Int) then some (l.length:Int) else Yn l k:=by
 unfold Yn
 rw [lW,LV]
 simp only [YL]
 by_cases h:k=(c.1:Int)
 · rw [LI h.symm,LI h]
 · rw [LH (fun e=>h e.symm),LH h]
theorem vY{sz cnt i j:Nat}{f b:Th}(hf:f.length=cnt*sz)(hj:j<cnt)(hi:i<cnt)(hb:b.length=sz):((put f (j*sz) b).drop (i*sz)).take sz=if i=j then b else (f.drop (i*sz)).take sz:=by
 have h1:=V9 (sz:=sz) hj
 have h2:=V9 (sz:=sz) hi
 apply Kb
 intro n
 rw [Vu]
 by_cases hn:n<sz
 · rw [LI hn,XI (by rw [hf,hb]; exact h1)]
   by_cases eZ:i=j
   · subst eZ
     rw [LI Ta,LI rfl,show i*sz+n-i*sz=n by omega]
   · rw [LH eZ,Vu,LI hn,LH]
     rintro ⟨h3,h4⟩
     rw [hb] at h4
     rcases Nat.lt_or_gt_of_ne eZ with h | h
     · have:=V9 (sz:=sz) h; omega
     · have:=V9 (sz:=sz) h; omega
 · rw [LH hn]
   split
   · rw [L8 Ta]
   · rw [Vu,LH hn]
theorem YQ{sz cnt:Nat}:∀ {l:List Wr} {f:Th},f.length=cnt*sz→(∀ c∈l,c.1<cnt∧c.2.length=sz)→(l.foldl (jP sz) f).length=f.length
 | l,f,hf,h=>by rw [← lV sz l 0 f]; exact Xr hf h
theorem sZ{sz cnt i:Nat}(hi:i<cnt):∀ {l:List Wr} {f:Th},f.length=cnt*sz→(∀ c∈l,c.1<cnt∧c.2.length=sz) →
 (∀ k:Int,Yn l i=some k→∃ c,0≤k∧l[k.toNat]?=some c∧((l.foldl (jP sz) f).drop (i*sz)).take sz=c.2∧k<l.length)∧(Yn l i=none→((l.foldl (jP sz) f).drop (i*sz)).take sz=(f.drop (i*sz)).take sz):=by
 intro l f hf
 generalize hm:l.reverse=m
 obtain rfl:l=m.reverse:=by rw [← hm,List.reverse_reverse]
 clear hm
 induction m with
 | nil=>intro _; exact ⟨fun k h=>by simp [Yn,YL] at h,fun _=>rfl⟩
 | cons c m ih=>
  rw [List.reverse_cons]
  generalize m.reverse=l at ih ⊢
  intro h
  have ih:=ih fun d hd=>h d (by simp [hd])
  have hc:=h c Tc
  have hl:=YQ (l:=l) hf fun d hd=>h d (by simp [hd])
  rw [List.foldl_append,lX]
  simp only [List.foldl_cons,List.foldl_nil]
  have hs:=vY (b:=c.2) (hl.trans hf) hc.1 hi hc.2
  unfold jP at *
  rw [hs]
  by_cases hic:i=c.1
  · rw [LI Ta,LI hic]
    refine ⟨fun k hk=>?_,fun hk=>by cases hk⟩
    obtain rfl:=Option.some.inj hk
    exact ⟨c,Ta,by rw [LD,L6 (LP _),Nat.sub_self]; rfl,rfl,by rw [Lc,LG]; omega⟩
  · rw [LH Ta,LH hic]
    refine ⟨fun k hk=>?_,ih.2⟩
    obtain ⟨d,h1,h2,h3,h4⟩:=ih.1 k hk
    exact ⟨d,h1,by rw [L3 Ta]; exact h2,h3,by rw [Lc]; omega⟩
def inc(x:Int):Int:=IntKind.i64.wrap (x+1)
def JI(D:Dv)(i:Int):Int:=if D.dn=true then 18 else if i<0∨(D.cnt:Int)≤i then 2 else 0
def ej(D:Dv)(i:Int):List UInt8:=((contents D).drop (i.toNat*D.sz)).take D.sz
def bm(D:Dv)(keep:Nat→Bool):Dv:={ D with dk:=dr D.sz keep 0 D.dk D.ca,ca:=[] }
def Yt(D:Dv)(i:Int)(b:Th):Int:=if JI D i≠0 then JI D i else if b.length≠D.sz then 2 else if D.wr=0 then 18 else 0
def VB(D:Dv)(i:Int)(b:Th):Dv:={ D with ca:=D.ca++[(i.toNat,b)],sW:=inc D.sW,sH:=max D.sH (i+1),sM:=max D.sM (D.ca.length+1:Nat) }
def lY(D:Dv)(i:Int)(b:Th):Dv:=
 if JI D i≠0∨b.length≠D.sz then D
 else if D.wr<0 then VB D i b else if 0<D.wr then { VB D i b with wr:=D.wr-1 }
 else { bm (VB D i b) (gG D.kp) with wr:=-1,dn:=true,sC:=inc D.sC }
def fe(D:Dv):Dv:=if D.dn=true then D else { bm D (fun _=>true) with sF:=inc D.sF }
def QS(D:Dv):Int:=if D.dn=true then 18 else 0
def jQ(D:Dv)(n k:Int):Dv:={ D with wr:=max n (-1),kp:=k }
def pj(D:Dv):Dv:={ bm D (fun _=>false) with dn:=false,wr:=-1 }
theorem Yk{D:Dv}(h:okDv D)(keep:Nat→Bool):okDv (bm D keep):=
 ⟨h.sz,by show (dr D.sz keep 0 D.dk D.ca).length=_; rw [Xr h.len h.ca]; exact h.len,h.cnt,h.max,by simp [bm],h.wr,h.kp,h.st⟩
theorem vZ{D:Dv}{i:Int}{b:Th}(h:okDv D)(hi:JI D i=0)(hb:b.length=D.sz)(hl:D.ca.length≤1000000000):okDv (VB D i b):=by
 have PG:0≤i∧i<D.cnt:=by
  unfold JI at hi
  split at hi
  · cases hi
  · split at hi
    · cases hi
    · omega
 have hcz:D.cnt≤D.cnt*D.sz:=Lu _ h.sz
 have hm:=h.max
 have hs:=h.st
 refine ⟨h.sz,h.len,h.cnt,h.max,fun c hc=>?_,h.wr,h.kp,?_⟩
 · rcases Ls.1 hc with hc | hc
   · exact h.ca c hc
   · rw [Lf.1 hc]; exact ⟨by show i.toNat<D.cnt; omega,hb⟩
 · simp only [aA] at hs ⊢
   refine ⟨?_,?_⟩
   · show _≤max D.sH (i+1)∧max D.sH (i+1)≤_; omega
   · show _≤max D.sM (D.ca.length+1:Nat)∧max D.sM (D.ca.length+1:Nat)≤_; omega
theorem s7{D:Dv}{i:Int}{b:Th}(h:okDv D)(hl:D.ca.length≤1000000000):okDv (lY D i b):=by
 unfold lY
 split
 · exact h
 · rename_i hc
   have ha:=vZ (i:=i) (b:=b) h Ta Ta hl
   have hw:=h.wr
   split
   · exact ha
   · split
     · exact ⟨ha.sz,ha.len,ha.cnt,ha.max,ha.ca,by show -1≤D.wr-1∧D.wr-1≤_; omega,ha.kp,ha.st⟩
     · have hp:=Yk ha (gG D.kp)
       exact ⟨hp.sz,hp.len,hp.cnt,hp.max,hp.ca,Tc,hp.kp,hp.st⟩
theorem s8{D:Dv}(h:okDv D):okDv (fe D):=by
 unfold fe
 split
 · exact h
 · have hp:=Yk h (fun _=>true)
   exact ⟨hp.sz,hp.len,hp.cnt,hp.max,hp.ca,hp.wr,hp.kp,hp.st⟩
theorem lZ{D:Dv}{n k:Int}(h:okDv D)(hn:aA n)(hk:0≤k∧k≤18446744073709551615):okDv (jQ D n k):=by
 simp only [aA] at hn
 exact ⟨h.sz,h.len,h.cnt,h.max,h.ca,by show -1≤max n (-1)∧max n (-1)≤_; omega,hk,h.st⟩
theorem mj{D:Dv}(h:okDv D):okDv (pj D):=by
 have hp:=Yk h (fun _=>false)
 exact ⟨hp.sz,hp.len,hp.cnt,hp.max,hp.ca,by simp [pj],hp.kp,hp.st⟩
def jR(sz cnt:Nat)(b:Th):Dv:=⟨sz,cnt,b++List.replicate (cnt*sz-b.length) 0,-1,0,0,0,0,0,0,[],false⟩
def right(size qD n:Int):Bool:=decide (1≤size∧1≤qD∧size*qD≤1048576∧n≤size*qD)
theorem s'{D:Dv}{i:Int}{b:Th}(h:JI D i≠0∨b.length≠D.sz):lY D i b=D:=LI h
theorem qE{D:Dv}{i:Int}{b:Th}(h:JI D i=0)(hb:b.length=D.sz)(hw:D.wr<0):lY D i b=VB D i b:=by
 unfold lY; rw [LH Ta,LI hw]
theorem Ck{D:Dv}{i:Int}{b:Th}(h:JI D i=0)(hb:b.length=D.sz)(hw:0<D.wr):lY D i b={ VB D i b with wr:=D.wr-1 }:=by
 unfold lY; rw [LH Ta,LH Ta,LI hw]
theorem v7{D:Dv}{i:Int}{b:Th}(h:JI D i=0)(hb:b.length=D.sz)(hw:D.wr=0):lY D i b={ bm { VB D i b with wr:=-1 } (gG D.kp) with dn:=true,sC:=inc D.sC }:=by
 unfold lY; rw [LH Ta,LH Ta,LH Ta]; rfl
theorem Xn{D:Dv}{i:Int}{b:Th}(h:JI D i=0)(hb:b.length=D.sz):Yt D i b=if D.wr=0 then 18 else 0:=by
 unfold Yt; rw [LH Ta,LH Ta]
theorem R0{D:Dv}(h:okDv D){n:Int}(hn:-1≤n∧n≤9223372036854775807):okDv { D with wr:=n }:=⟨h.sz,h.len,h.cnt,h.max,h.ca,hn,h.kp,h.st⟩
theorem Cl{n:Nat}{b:Th}(h:b.length≤n):put (List.replicate n 0) 0 b=b++List.replicate (n-b.length) 0:=by
 unfold put
 rw [List.take_zero,L4,LV,List.drop_replicate]
theorem qF{a c:Nat}{b:Th}(h1:1≤a)(h2:1≤c)(h3:c*a≤1048576)(h4:b.length≤c*a):okDv (jR a c b):=
 ⟨h1,by show (b++List.replicate (c*a-b.length) 0).length=_; rw [Lc,List.length_replicate]; show _=c*a; omega,h2,h3,by simp [jR],by simp [jR],by simp [jR],by simp [jR,aA]⟩
theorem xH{a c:Nat}{b:Th}(h4:b.length≤c*a):(jR a c b).dk.length=c*a:=by
 show (b++List.replicate (c*a-b.length) 0).length=_; rw [Lc,List.length_replicate]; omega
end Go.Pl
namespace Go.Cx
open Go
def Jr(w:World)(Z:Tf):Prop:=(∀ p,p∈Z→p.2.real=true→w.heap[p.1]?=some p.2.Jd)∧(ak Z).Nodup
theorem Mem.Jz{w0 w:World}{X:Bs}{L:Tf}(h:Mem w0 w X L):Jr w L:=⟨h.own,h.nodup⟩
theorem Jr.start{w:World}{Z:Tf}(h:Jr w Z):Mem w w (Mn (ak Z)) Z:=
 ⟨rfl,rfl,rfl,LP _,fun _ _ _=>rfl,h.1,fun p hp hr=>.inl (JD.2 ⟨p.2,hp,hr⟩),h.2⟩
theorem Jr.left{w:World}{A B:Tf}(h:Jr w (A++B)):Jr w A:=⟨fun p hp=>h.1 p (Lw _ hp),by
 have:=h.2; rw [Qi] at this; exact (Kg.1 this).1⟩
theorem Jr.ext{w w':World}{Z:Tf}(h:Jr w Z)(hx:Ext No w w'):Jr w' Z:=
 ⟨fun p hp hr=>(hx.same _ (Lb.1 (h.1 p hp hr)).1 id).trans (h.1 p hp hr),h.2⟩
theorem Jr.get{w:World}{Z:Tf}(h:Jr w Z){k n:Nat}{b:ag}(hk:aR Z k=some (n,b))(hr:b.real=true:=by rfl):w.heap[n]?=some b.Jd:=h.1 (n,b) (Js hk) hr
theorem Mem.xI{w0 w w':World}{X:Bs}{Z Z' L:Tf}(h:Mem w0 w X (Z++L))(hc:Mem w w' (Mn (ak Z)) Z'):Mem w0 w' X (Z'++L):=h.call hc fun _ hk=>hk
theorem Mem.mq{w0 w w':World}{X:Bs}{A Z Z' L:Tf}(h:Mem w0 w X (A++(Z++L)))(hc:Mem w w' (Mn (ak Z)) Z'):Mem w0 w' X (A++(Z'++L)):=by
 have h1:Mem w0 w X (Z++(A++L)):=h.perm (by
  rw [← Lp,← Lp]
  exact List.perm_append_comm.append_right L)
 have h2:=h1.xI hc
 exact h2.perm (by
  rw [← Lp,← Lp]
  exact List.perm_append_comm.append_right L)
theorem Mem.JQ{w0 w w':World}{X:Bs}{A Z Z':Tf}(h:Mem w0 w X (A++Z))(hc:Mem w w' (Mn (ak Z)) Z'):Mem w0 w' X (A++Z'):=by
 have:=Mem.mq (L:=[]) (by rw [Lq]; exact h) hc
 rwa [Lq] at this
theorem Jr.right{w:World}{A B:Tf}(h:Jr w (A++B)):Jr w B:=⟨fun p hp=>h.1 p (Ly _ hp),by
 have:=h.2; rw [Qi] at this; exact (Kg.1 this).2.1⟩
theorem Mem.MI{w0 w:World}{X:Bs}{Z:Tf}{m:Nat}{b:ag}(h:Mem w0 w X ((m,b)::Z))(hb:b.real=true:=by rfl):¬ Mn (ak Z) m:=fun hm=>by
 have hn:=h.nodup
 rw [Qs,LI hb,List.nodup_cons] at hn
 exact hn.1 hm
theorem Mem.ta{w0 w:World}{X:Bs}{L:Tf}(h:Mem w0 w X L)(i j:Nat){m n:Nat}{b c:ag}(hi:aR L i=some (m,b))(hj:aR L j=some (n,c))(eZ:Nat.beq i j=false)(hb:b.real=true:=by rfl):¬ (m=n∧c.real=true):=fun ⟨e,hc⟩=>h.ne i j hi hj eZ hb hc e
theorem Acc.Fy{e es n cap g:Nat}{b:ag}{q:Tg}{cells:Ti}{w:World}{Z:Tf}(h:Acc e es q n cap cells g b)(hZ:Jr w Z)(cR:(g,b)∈Z):Rd w q cells:=h.MF hZ.start cR
theorem bh.Fy{Z:Tf}{u8:Nat}{s:SB}{w:World}(h:bh Z u8 s)(hZ:Jr w Z):Rd w s.p (s.bs.flatMap Jk):=h.rd hZ.start fun _ he=>he
theorem Acc.R3{e es bs g n cap o dl sl sc dc T:Nat}{ts:Array TypeId}{ty:TypeId}{b:ag}{p q:Tg}{cells src:Ti}{w0 w:World}{X:Bs}{L:Tf}{P:Program}(ha:Acc e es p n cap cells g b)(hm:Mem w0 w X L)(j:Nat)(hj:aR L j=some (g,b))(ho:o+dl≤n)
 (hT:QH P T=some (e,es,bs)) (dU:ts[0]?=some T) (hq:Rd w q src) (hs:src.length=min sl dl*es) (h1:src.all (·.oneCell')=true) :
 ∃ b' w',(Builtin.copy_ ts ty #[.slice (bP p cap o es) dl dc,.slice q sl sc]).run P w=.ok (.int .i64 (min sl dl:Nat)) w'∧Acc e es p n cap (aU cells (o*es) src) g b'∧Mem w0 w' X (QQ L j (g,b'))∧b'.real=b.real:=by
 have lq:∀ (L:Tf) (k:Nat) (q:Nat×ag),aR L k=some q→QQ L k q=L:=fun L=>by
  induction L with
  | nil=>intro k q h; simp [aR] at h
  | cons x r ih=>
   intro k q h
   cases k with
   | zero=>simp only [aR,Option.some.injEq] at h; subst h; rfl
   | succ k=>simp only [QQ]; rw [ih k q h]
 have none_:min sl dl=0→∀ p':Tg,∃ b' w',(Builtin.copy_ ts ty #[.slice p' dl dc,.slice q sl sc]).run P w=.ok (.int .i64 (min sl dl:Nat)) w'∧Acc e es p n cap (aU cells (o*es) src) g b'∧Mem w0 w' X (QQ L j (g,b'))∧b'.real=b.real:=fun h0 p'=>by
  have IU:src=[]:=Ll.1 (by rw [hs,h0,Nat.zero_mul])
  subst IU
  refine ⟨b,w,?_,ha,by rw [lq L j _ hj]; exact hm,rfl⟩
  rw [h0]
  exact zm hT dU hq h0 (by cases p' with | none=>exact .inl rfl | some a=>exact .inr ⟨a,rfl⟩)
 rcases ha.cases' with ⟨h2,h3,_⟩ | ⟨l,rfl,rfl,vo,r5,oP⟩
 · exact none_ Ta _
 · by_cases hco:cap=o
   · exact none_ Ta _
   · have cU:bP (some ⟨g,0,none⟩) cap o es=some ⟨g,o*es,none⟩:=by unfold bP; rw [LH hco]; simp
     have RP:n*es≤cap*es:=Lr _ vo
     have jao:o*es+dl*es≤n*es:=by rw [← Kh]; exact Lr _ ho
     have hle4:min sl dl*es≤dl*es:=Lr _ (Nat.min_le_right _ _)
     have bL:=ha.len
     rw [cU]
     refine ⟨.row e (aU l (o*es) src),_,B3 hT dU (hm.get hj) Ta hq hs h1,⟨by rw [Q2,bL],.inr ⟨_,rfl,rfl,vo,by rw [Q2,r5],?_⟩⟩,?_,rfl⟩
     · rw [QT src l _ Ta,QT src cells _ Ta,← oP,List.take_append,List.take_append]
       simp only [Lg,Lc,List.take_take,List.drop_take]
       have e1:min (n*es) (o*es)=o*es:=by omega
       have e2:min (o*es) (n*es)=o*es:=by omega
       have e3:min (o*es) l.length=o*es:=by omega
       rw [e1,e2,e3,LZ (l:=src) Ta]
     · rw [← gA L j g _ _ hj]
       exact Qk hm hj
section
variable {P:Program}{r:Option Nat}{k:Ks}{ops:Array Oper}{md:Md}{n:Nat}{D:List Deferred}{S:Tk}{w:World}{i:Nat}{t:Tr}
variable {ty:TypeId}{pos:String}{af:Array Edge}{g:Option (Nat×Bool)}{dst:Option Tmp}{d:Nat}{w0:World}{X:Bs}{L:Tf}
theorem kh{T e es bs:Nat}{x y:Operand}{ts:Array TypeId}{p q:Tg}{na cap o dl dc sl sc gg:Nat}{b:ag}{cells src:Ti}
 (ho:eL ops S i=some (⟨dst,.call ⟨.builtin .copy,#[x,y],ts⟩,ty,pos,af,g⟩,d)) (hd:Nat.blt d n=true) (hx:ev S x=some (.slice (bP p cap o es) dl dc)) (hy:ev S y=some (.slice q sl sc)) (dU:ts[0]?=some T)
 (hT:QH P T=some (e,es,bs)) (hle:o+dl≤na) (hq:Rd w q src) (hs:src.length=min sl dl*es) (h1:src.all (·.oneCell')=true) (ha:Acc e es p na cap cells gg b)
 (hm:Mem w0 w X L) (j:Nat) (hj:aR L j=some (gg,b))
 (h:∀ b' w',Acc e es p na cap (aU cells (o*es) src) gg b'→Mem w0 w' X (QQ L j (gg,b'))→HR P r k ops none n D ((d,.int .i64 (min sl dl:Nat))::S) t w'):HR P r k ops none n D S (.act i t) w:=by
 obtain ⟨b',w',aN,vE,vF,_⟩:=ha.R3 (dc:=dc) (sc:=sc) (ty:=ty) hm j hj hle hT dU hq hs h1
 refine Vv ho hd rfl (fun a hf=>?_) trivial (h b' w' vE vF)
 simp only [execOp,resolve,List.map_toArray,Ka,List.map_nil,hf.eval hx,hf.eval hy,Sem.run_bind,Sem.run_pure,Result.andThen_ok,invoke,builtin,aN]
theorem IZ{md:Md}{o:Oper}{v:Value}{w':World}(ho:j7 ops S i=some o)(hp:vC o=true)(aN:∀ a,Fr a n D S→(execOp a.eval o).run P w=.ok (.value v) w')
 (hh:aQ md w') (h:HR P r k ops md n D S t w'):HR P r k ops md n D S (.act i t) w:=fun a hf=>by
 obtain ⟨h1,h2,h3⟩:=YH ho hf
 refine ⟨o,h1,fun _=>?_,fun hw=>by rw [h2] at hw; cases hw⟩
 unfold rV
 rw [JY hp,aN a hf]
 refine ⟨hh,?_⟩
 rw [h3]
 exact h _ hf
theorem tb{T:TypeId}{x:Operand}{m ck:Nat}{es:List (Int×Int×Nat)}(ho:j7 ops S i=some ⟨dst,.call ⟨.builtin .clear,#[x],#[T]⟩,ty,pos,af,g⟩)(hx:ev S x=some (.map (some m)))(hT:gF P T=true)
 (hm:Mem w0 w X L) (j:Nat) (hk:aR L j=some (m,ep es ck)) (h:∀ w',Mem w0 w' X (Qr L j (ep [] ck))→HR P r k ops none n D S t w'):HR P r k ops none n D S (.act i t) w:=by
 have h1:=qC (P:=P) (ty:=ty) hT (hm.get hk)
 refine IZ (v:=.tuple ⟨[]⟩) ho rfl (fun a hf=>?_) trivial (h _ (hm.setObj hk))
 simp [execOp,resolve,invoke,builtin,hf.eval hx,h1]
 rfl
end
theorem Cn(xs:Th):xs.flatMap Jk=xs.map (fun x=>Value.int .u8 x.toNat):=by
 induction xs with
 | nil=>rfl
 | cons x r ih=>rw [Lk,ih]; rfl
theorem Y0{xs ys:Th}{o:Nat}(h:o+ys.length≤xs.length):aU (xs.flatMap Jk) (o*1) (ys.flatMap Jk)=(Pl.put xs o ys).flatMap Jk:=by
 rw [Cn,Cn,Cn,Nat.mul_one,QT _ _ _ (by simpa using h)]
 unfold Pl.put
 simp only [Lx,List.map_take,List.map_drop,Lj]
structure PdV where
 i:Nat
 d:SB
def Gq(x:PdV):List Value:=[.int .i64 (x.i:Int),.slice x.d.p x.d.bs.length x.d.cap]
theorem gH(x:PdV):(Gq x).length=2:=rfl
def PdV.wr(x:PdV):Pl.Wr:=(x.i,x.d.bs)
def dI(D:Pl.Dv)(pb:Tg)(cb:Nat)(pc:Tg)(cc gm:Nat):List Value:=
 [.int .i64 (D.sz:Int),.slice pb D.dk.length cb,.int .i64 D.wr,.int .u64 D.kp,.int .i64 D.sW,.int .i64 D.sF,.int .i64 D.sC,.int .i64 D.sH,.int .i64 D.sM,.slice pc D.ca.length cc,.map (some gm),.bool D.dn]
structure mu(TD TP U8:Nat)(D:Pl.Dv)(m:Nat)(pb:Tg)(cb gb:Nat)(bb:ag)(pc:Tg)(cc gc:Nat)(bc:ag)(gm:Nat)(es:List (Int×Int×Nat))(cs:List PdV)(B:Tf):Prop where
 ab:Acc U8 1 pb D.dk.length cb (D.dk.flatMap Jk) gb bb
 ac:Acc TP 2 pc D.ca.length cc (cs.flatMap Gq) gc bc
 cw:cs.map PdV.wr=D.ca
 hd:∀ c∈cs,bh B U8 c.d
 mp:∀ k,QJ es k=Pl.Yn D.ca k
 ok:Pl.okDv D
def JV(TD TP U8:Nat)(D:Pl.Dv)(m:Nat)(Z:Tf):Prop:=
 ∃ pb cb gb bb pc cc gc bc gm es ck cs B,Z=(m,.row TD (dI D pb cb pc cc gm))::(gb,bb)::(gc,bc)::(gm,ep es ck)::B∧mu TD TP U8 D m pb cb gb bb pc cc gc bc gm es cs B
theorem JV.ok{TD TP U8:Nat}{D:Pl.Dv}{m:Nat}{Z:Tf}(h:JV TD TP U8 D m Z):Pl.okDv D:=by
 obtain ⟨pb,cb,gb,bb,pc,cc,gc,bc,gm,es,ck,cs,B,_,h⟩:=h
 exact h.ok
theorem Co{cs:List PdV}{l:List Pl.Wr}{k:Nat}{c:PdV}(h:cs.map PdV.wr=l)(hc:cs[k]?=some c):l[k]?=some (c.i,c.d.bs):=by
 rw [← h,Lt,hc]; rfl
theorem iV{cs:List PdV}{l:List Pl.Wr}(h:cs.map PdV.wr=l):cs.length=l.length:=by rw [← h,Lj]
theorem n4{a b:Nat}(h:a*b≤9223372036854775807):IntKind.i64.wrap ((a:Int)*(b:Int))=((a*b:Nat):Int):=by
 have e:(a:Int)*(b:Int)=((a*b:Nat):Int):=by norm_cast
 rw [e]
 exact Ql Ta Ta
theorem jap{a:Nat}(h:a≤4611686018427387903):IntKind.i64.wrap ((a:Int)+1)=((a+1:Nat):Int):=Ql Ta Ta
theorem Gr{D:Pl.Dv}(h:Pl.okDv D):IntKind.i64.wrap ((D.dk.length:Int).tdiv (D.sz:Int))=(D.cnt:Int):=by
 have h1:=h.sz
 have h2:=h.max
 have hcz:D.cnt≤D.cnt*D.sz:=Lu _ h1
 have e:(D.dk.length:Int).tdiv (D.sz:Int)=(D.cnt:Int):=by
  rw [h.len,Int.tdiv_eq_ediv_of_nonneg Ta]
  have:((D.cnt*D.sz:Nat):Int)=(D.cnt:Int)*(D.sz:Int):=by norm_cast
  rw [this]
  exact Int.mul_ediv_cancel _ Ta
 rw [e]
 exact Ql Ta Ta
theorem xJ{D:Pl.Dv}{i:Int}(h:Pl.JI D i=0):D.dn=false∧0≤i∧i<D.cnt:=by
 unfold Pl.JI at h
 split at h
 · cases h
 · rename_i h1
   split at h
   · cases h
   · exact ⟨by simpa using h1,Ta⟩
theorem mu.dev{TD TP U8:Nat}{D:Pl.Dv}{m:Nat}{pb:Tg}{cb gb:Nat}{bb:ag}{pc:Tg}{cc gc:Nat}{bc:ag}{gm:Nat}{es:List (Int×Int×Nat)}{cs:List PdV}{B:Tf}(ck:Nat)(h:mu TD TP U8 D m pb cb gb bb pc cc gc bc gm es cs B) :
 JV TD TP U8 D m ((m,.row TD (dI D pb cb pc cc gm))::(gb,bb)::(gc,bc)::(gm,ep es ck)::B):=⟨pb,cb,gb,bb,pc,cc,gc,bc,gm,es,ck,cs,B,rfl,h⟩
theorem mu.add{TD TP U8:Nat}{D:Pl.Dv}{m:Nat}{pb:Tg}{cb gb:Nat}{bb:ag}{pc pc2:Tg}{cc cc2 gc gc2:Nat}{bc bc2:ag}{gm:Nat}{es:List (Int×Int×Nat)}{cs:List PdV}{B:Tf}(ck:Nat){i:Int}{bs:Th}{ps:Tg}{Z0 gs:Nat}{b:ag}(h:mu TD TP U8 D m pb cb gb bb pc cc gc bc gm es cs B)
 (hi:Pl.JI D i=0) (hb:bs.length=D.sz) (hl:D.ca.length≤1000000000) (ha:Acc TP 2 pc2 (D.ca.length+1) cc2 (cs.flatMap Gq++[.int .i64 i,.slice ps bs.length Z0]) gc2 bc2) (hs:Acc U8 1 ps bs.length Z0 (bs.flatMap Jk) gs b) :
 mu TD TP U8 (Pl.VB D i bs) m pb cb gb bb pc2 cc2 gc2 bc2 gm (Zr es ck i D.ca.length) (cs++[⟨i.toNat,⟨ps,Z0,bs⟩⟩]) ((gs,b)::B):=by
 obtain ⟨_,nM,ki⟩:=xJ hi
 have cR:((i.toNat:Nat):Int)=i:=by omega
 refine ⟨h.ab,?_,?_,?_,?_,Pl.vZ h.ok hi hb hl⟩
 · rw [Lh,List.flatMap_singleton]
   show Acc TP 2 pc2 (D.ca++[(i.toNat,bs)]).length cc2 (cs.flatMap Gq++[.int .i64 (i.toNat:Int),.slice ps bs.length Z0]) gc2 bc2
   rw [cR,Lc]
   exact ha
 · rw [Lx,h.cw]; rfl
 · intro c hc
   rcases Ls.1 hc with hc | hc
   · exact (h.hd c hc).mono fun e he=>LX _ he
   · rw [Lf.1 hc]; exact ⟨gs,b,Lo,hs⟩
 · intro k
   rw [vW]
   show _=Pl.Yn (D.ca++[(i.toNat,bs)]) k
   rw [Pl.lX,h.mp k]
   show _=if k=(i.toNat:Int) then _ else _
   rw [cR]
theorem mu.as{TD TP U8:Nat}{D D2:Pl.Dv}{m:Nat}{pb:Tg}{cb gb:Nat}{bb:ag}{pc:Tg}{cc gc:Nat}{bc:ag}{gm:Nat}{es:List (Int×Int×Nat)}{cs:List PdV}{B:Tf}(h:mu TD TP U8 D m pb cb gb bb pc cc gc bc gm es cs B)
 (h1:D2.dk=D.dk) (h2:D2.ca=D.ca) (ok:Pl.okDv D2):mu TD TP U8 D2 m pb cb gb bb pc cc gc bc gm es cs B:=⟨by rw [h1]; exact h.ab,by rw [h2]; exact h.ac,by rw [h2]; exact h.cw,h.hd,by rw [h2]; exact h.mp,ok⟩
theorem jaq{n:Int}(h1:-9223372036854775807≤n)(h2:n≤9223372036854775807):IntKind.i64.wrap (n-1)=n-1:=Ql Ta Ta
theorem R4{g cap:Nat}(h:cap≠0):bP (some ⟨g,0,none⟩) cap 0 1=some ⟨g,0,none⟩:=by unfold bP; rw [LH h]; rfl
theorem Gs:∀ n:Nat,Qn [.int .u8 0] n=(List.replicate n (0:UInt8)).flatMap Jk
 | 0=>rfl
 | n+1=>by
  rw [List.replicate_succ,Lk,← Gs n]
  rfl
theorem divC{y:Int}(h:1≤y):IntKind.i64.wrap ((1048576:Int).tdiv y)=1048576/y:=by
 rw [Int.tdiv_eq_ediv_of_nonneg Ta]
 have h1:0≤(1048576:Int)/y:=Int.ediv_nonneg Ta Ta
 have h2:(1048576:Int)/y≤1048576:=Int.ediv_le_self _ Ta
 exact Ql Ta Ta
theorem jar{x y:Int}(h:1≤y)(hx:1048576<x*y):1048576/y<x:=(Int.ediv_lt_iff_lt_mul Ta).2 hx
theorem R5{x y:Int}(h:1≤y)(hx:x*y≤1048576):x≤1048576/y:=(Int.le_ediv_iff_mul_le Ta).2 hx
theorem MJ(x y n:Int):(x<1∨y<1)∨(1≤x∧1≤y∧1048576<x*y)∨(1≤x∧1≤y∧x*y≤1048576∧x*y<n)∨(1≤x∧1≤y∧x*y≤1048576∧n≤x*y):=by omega
theorem Jr.tail{w:World}{x:Nat×ag}{B:Tf}(h:Jr w (x::B)):Jr w B:=Jr.right (A:=[x]) h
theorem Mem.ML{w0 w w':World}{X:Bs}{x:Nat×ag}{Z Z':Tf}(h:Mem w0 w X (x::Z))(hc:Mem w w' (Mn (ak Z)) Z'):Mem w0 w' X (x::Z'):=Mem.JQ (A:=[x]) h hc
theorem Mem.qG{w0 w:World}{X:Bs}{A Z:Tf}{n k:Nat}{b:ag}(h:Mem w0 w X (A++Z))(hk:aR A k=some (n,b))(hb:b.real=true:=by rfl):¬ Mn (ak Z) n:=fun hm=>by
 have hn:=h.nodup
 rw [Qi] at hn
 exact (Kg.1 hn).2.2 n (JD.2 ⟨b,Js hk,hb⟩) n hm rfl
theorem Mem.XR{w0 w w':World}{X:Bs}{L Z:Tf}(h:Mem w0 w X L)(hc:Mem w w' No Z):Mem w0 w' X (L++Z):=(h.Jt hc).perm List.perm_append_comm
theorem Mem.Cp{w0 w w':World}{X:Bs}{A Z1 Z2 Z':Tf}(h:Mem w0 w X (A++(Z1++Z2)))(hc:Mem w w' (Mn (ak Z2)) Z'):Mem w0 w' X (A++(Z1++Z')):=by
 rw [← Lp] at h ⊢
 exact h.JQ hc
theorem Jr.bX{w:World}{A Z1 Z2:Tf}(h:Jr w (A++(Z1++Z2))):Jr w Z1:=(Jr.right (A:=A) h).left
theorem Gt(x y n:Int):(decide (1≤x)&&decide (1≤y)&&decide (x≤1048576)&&decide (y≤1048576)&&decide (x*y≤1048576)&&decide (n≤x*y))=Pl.right x y n:=by
 unfold Pl.right
 rw [Bool.eq_iff_iff]
 simp only [LJ,LO]
 constructor
 · rintro ⟨⟨⟨⟨⟨h1,h2⟩,_⟩,_⟩,h3⟩,h4⟩; exact ⟨h1,h2,h3,h4⟩
 · rintro ⟨h1,h2,h3,h4⟩
   have h5:x*1≤x*y:=Int.mul_le_mul_of_nonneg_left h2 Ta
   have h6:1*y≤x*y:=Int.mul_le_mul_of_nonneg_right h1 Ta
   exact ⟨⟨⟨⟨⟨h1,h2⟩,Ta⟩,Ta⟩,h3⟩,h4⟩
end Go.Cx
namespace Go.Pl
theorem Cq(a c:Nat)(b:Th):(jR a c b).dk.take b.length=b:=by
 show (b++List.replicate (c*a-b.length) 0).take b.length=b
 exact Kj
def jas(D:Dv)(k n:Int)(bs:Th)(kp:Int):Dv:=if k=0 then D else if k=1 then lY D n bs else if k=2 then fe D else if k=3 then jQ D n kp else pj D
end Go.Pl
namespace Go.Cx
open Go
theorem Mem.v8{w0 w w':World}{X:Bs}{x:Nat×ag}{B N:Tf}(h:Mem w0 w X (x::B))(hc:Mem w w' No N):Mem w0 w' X (x::(N++B)):=(h.Jt hc).perm List.perm_middle
theorem xK{A B:Tf}{y:Nat}(h:Mn (ak A) y):Mn (ak (A++B)) y:=by rw [Qi]; exact Lw _ h
end Go.Cx
namespace Go.Pl
end Go.Pl
namespace Go.Cx
open Go
structure StV where
 k:Int
 n:Int
 s:SB
 kp:Int
def StV.app(x:StV)(D:Pl.Dv):Pl.Dv:=Pl.jas D x.k x.n x.s.bs x.kp
theorem Mem.MM{w0 w:World}{A Z:Tf}{p:Tg}{cs:Ti}(hm:Mem w0 w No (A++Z))(hR:Rd w0 p cs):cs≠[]→∀ ad,p=some ad→¬ Mn (ak Z) ad.block:=fun h ad e hn=>by
 have h1:=hR.lt h ad e
 obtain ⟨b,hb,hr⟩:=JD.1 hn
 have h2:=(hm.fresh _ (Ly _ hb) hr).resolve_left id
 simp only at h2
 omega
theorem Mem.MN{w0 w w':World}{X:Bs}{A Z1 Z2:Tf}(h:Mem w0 w X (A++Z1))(hc:Mem w w' No Z2):Mem w0 w' X (A++(Z1++Z2)):=by
 rw [← Lp]; exact h.XR hc
theorem MO{x y n:Int}(h:Pl.right x y n=true):1≤x∧1≤y∧x≤1048576∧y≤1048576:=by
 rw [← Gt] at h
 simp only [LJ,LO] at h
 exact ⟨h.1.1.1.1.1,h.1.1.1.1.2,h.1.1.1.2,h.1.1.2⟩
theorem Mem.MP{w0 w w':World}{X:Bs}{A Z1 Z2 N:Tf}(h:Mem w0 w X (A++(Z1++Z2)))(hc:Mem w w' No N):Mem w0 w' X (A++(Z1++(Z2++N))):=by
 have h1:=h.XR hc
 rwa [Lp,Lp] at h1
section
variable {P:Program}{r:Option Nat}{k:Ks}{ops:Array Oper}{md:Md}{n:Nat}{D:List Deferred}{S:Tk}{w:World}{i:Nat}{t:Tr}
end
end Go.Cx
namespace Go.Pl
def tc:UInt32:=3988292384
def Vb(x:UInt32):UInt32:=(x >>> 1) ^^^ (tc &&& -(x &&& 1))
theorem jau(x:UInt32):(x &&& 1).toNat=x.toNat%2:=by
 rw [UInt32.toNat_and]
 exact Nat.and_one_is_mod _
theorem wa(x:UInt32):(x &&& 1=0∧x.toNat%2=0)∨(x &&& 1=1∧x.toNat%2=1):=by
 have h:=jau x
 rcases Nat.mod_two_eq_zero_or_one x.toNat with h0 | h0
 · exact .inl ⟨UInt32.toNat_inj.1 (by rw [h,h0]; rfl),h0⟩
 · exact .inr ⟨UInt32.toNat_inj.1 (by rw [h,h0]; rfl),h0⟩
theorem Zf(x:UInt32):Vb x=if x.toNat%2=1 then (x >>> 1) ^^^ tc else x >>> 1:=by
 unfold Vb
 rcases wa x with ⟨h,h0⟩ | ⟨h,h0⟩
 · rw [h,LH Ta,show tc &&& -(0:UInt32)=0 by decide]
   exact UInt32.xor_zero
 · rw [h,LI h0,show tc &&& -(1:UInt32)=tc by decide]
theorem wb(x:UInt32):(x >>> 1).toNat=x.toNat/2:=by
 rw [UInt32.toNat_shiftRight]
 show x.toNat >>> (1%32)=_
 rw [Nat.shiftRight_eq_div_pow]
theorem Cr{a b:UInt32}(h:∀ i,i<32→a.toNat.testBit i=b.toNat.testBit i):a=b:=by
 apply UInt32.toNat_inj.1
 apply Nat.eq_of_testBit_eq
 intro i
 by_cases hi:i<32
 · exact h i hi
 · have e:∀ n:Nat,n<4294967296→n.testBit i=false:=fun n hn=>Nat.testBit_lt_two_pow (Nat.lt_of_lt_of_le hn (by
    have:2 ^ 32≤2 ^ i:=Nat.pow_le_pow_right Tb Ta
    simpa using this))
   rw [e _ a.toNat_lt,e _ b.toNat_lt]
theorem wc(x y:UInt32):Vb (x ^^^ y)=Vb x ^^^ Vb y:=by
 have hs:(x ^^^ y) >>> 1=(x >>> 1) ^^^ (y >>> 1):=Cr fun i hi=>by
  simp only [wb,UInt32.toNat_xor,Nat.testBit_xor,← Nat.testBit_succ]
 have hp:(x ^^^ y).toNat%2=(x.toNat%2+y.toNat%2)%2:=by
  rw [UInt32.toNat_xor]
  have:=Nat.testBit_xor x.toNat y.toNat 0
  simp only [Nat.testBit_zero] at this
  have h1:=Nat.mod_two_eq_zero_or_one x.toNat
  have h2:=Nat.mod_two_eq_zero_or_one y.toNat
  have h3:=Nat.mod_two_eq_zero_or_one (x.toNat ^^^ y.toNat)
  rcases h1 with h1 | h1 <;> rcases h2 with h2 | h2 <;> rcases h3 with h3 | h3 <;> simp_all
 rw [Zf,Zf,Zf,hp,hs]
 have h1:=Nat.mod_two_eq_zero_or_one x.toNat
 have h2:=Nat.mod_two_eq_zero_or_one y.toNat
 generalize x >>> 1=a
 generalize y >>> 1=b
 have key:∀ p q r:Bool,((p ^^ q)=(p ^^ q))∧(((p ^^ q) ^^ r)=(p ^^ (q ^^ r)))∧(((p ^^ q) ^^ r)=((p ^^ r) ^^ q))∧((p ^^ q)=((p ^^ r) ^^ (q ^^ r))):=by decide
 rcases h1 with h1 | h1 <;> rcases h2 with h2 | h2 <;> rw [h1,h2] <;> refine Cr fun i hi=>?_ <;> simp only [Nat.reduceAdd,Nat.reduceMod,Nat.zero_ne_one,if_true,if_false,UInt32.toNat_xor,Nat.testBit_xor]
 · exact (key _ _ (tc.toNat.testBit i)).2.1
 · exact (key _ _ (tc.toNat.testBit i)).2.2.1
 · exact (key _ _ (tc.toNat.testBit i)).2.2.2
theorem XL{x:UInt32}(h:x.toNat%2=0):(Vb x).toNat=x.toNat/2:=by
 rw [Zf,LH Ta,wb]
def Yv(x:UInt32):UInt32:=Vb (Vb (Vb (Vb x)))
theorem Cs(x y:UInt32):Yv (x ^^^ y)=Yv x ^^^ Yv y:=by
 unfold Yv; simp only [wc]
theorem Ct{x:UInt32}(h:x.toNat%16=0):(Yv x).toNat=x.toNat/16:=by
 have h1:=XL (x:=x) Ta
 have h2:=XL (x:=Vb x) Ta
 have h3:=XL (x:=Vb (Vb x)) Ta
 have h4:=XL (x:=Vb (Vb (Vb x))) Ta
 unfold Yv
 omega
theorem td(x:UInt32):(x &&& 15).toNat=x.toNat%16:=by
 rw [UInt32.toNat_and]
 exact Nat.and_two_pow_sub_one_eq_mod x.toNat 4
theorem jav(x:UInt32):(x >>> 4).toNat=x.toNat/16:=by
 rw [UInt32.toNat_shiftRight]
 show x.toNat >>> (4%32)=_
 rw [Nat.shiftRight_eq_div_pow]
theorem te(x:UInt32):(x >>> 4) ^^^ Yv (x &&& 15)=Yv x:=by
 obtain ⟨y,hy⟩:∃ y:UInt32,y.toNat=x.toNat/16*16:=⟨UInt32.ofNat (x.toNat/16*16),by
  rw [UInt32.toNat_ofNat']; have:=x.toNat_lt; exact Nat.mod_eq_of_lt (by show _<4294967296; omega)⟩
 have hx:x=y ^^^ (x &&& 15):=Cr fun i hi=>by
  rw [UInt32.toNat_xor,Nat.testBit_xor,td,hy]
  have e1:(x.toNat/16*16).testBit i=(decide (4≤i)&&x.toNat.testBit i):=by
   have h2:x.toNat/16*16=(x.toNat >>> 4) <<< 4:=by rw [Nat.shiftRight_eq_div_pow,Nat.shiftLeft_eq]
   rw [h2,Nat.testBit_shiftLeft]
   by_cases h4:4≤i
   · simp [h4,Nat.testBit_shiftRight,show 4+(i-4)=i by omega]
   · simp [h4]
  have e2:(x.toNat%16).testBit i=(decide (i<4)&&x.toNat.testBit i):=Nat.testBit_mod_two_pow x.toNat 4 i
  rw [e1,e2]
  by_cases h4:4≤i
  · simp [h4,show ¬ i<4 by omega]
  · simp [h4,show i<4 by omega]
 have h1:Yv y=x >>> 4:=UInt32.toNat_inj.1 (by rw [Ct Ta,hy,jav]; omega)
 conv=>rhs; rw [hx,Cs,h1]
def jaw(x:UInt32):UInt32:=Yv (Yv x)
def qH(r:UInt32)(c:UInt8):UInt32:=jaw (r ^^^ c.toUInt32)
def VY(r:UInt32)(bs:Th):UInt32:=bs.foldl qH r
def qI(bs:Th):UInt32 := ~~~ (VY (~~~ 0) bs)
theorem mw(r:UInt32)(a b:Th):VY r (a++b)=VY (VY r a) b:=List.foldl_append
def tf(s:UInt32):List UInt8:=[s.toUInt8,(s >>> 8).toUInt8,(s >>> 16).toUInt8,(s >>> 24).toUInt8]
end Go.Pl
namespace Go.Cx
open Go
def Zn(x:UInt32):List Value:=[.int .u32 (x.toNat:Int)]
theorem Cu(x:UInt32):(Zn x).length=1:=rfl
theorem wrap32{n:Nat}:IntKind.u32.wrap (n:Int)=((n%4294967296:Nat):Int):=by
 simp only [IntKind.wrap,IntKind.signed,IntKind.bits,Bool.false_and,L0,if_false]
 omega
theorem I0{n:Nat}:IntKind.u8.wrap (n:Int)=((n%256:Nat):Int):=by
 simp only [IntKind.wrap,IntKind.signed,IntKind.bits,Bool.false_and,L0,if_false]
 omega
theorem R6(x:UInt32):x.toNat<4294967296:=x.toNat_lt
theorem MQ(x:UInt32):BitVec.ofInt IntKind.u32.bits (x.toNat:Int)=x.toBitVec:=by
 show BitVec.ofInt 32 (x.toNat:Int)=x.toBitVec
 rw [BitVec.ofInt_natCast]
 exact BitVec.eq_of_toNat_eq (by rw [BitVec.toNat_ofNat]; exact Nat.mod_eq_of_lt x.toNat_lt)
theorem Z4(b:UInt32):IntKind.u32.wrap ((b.toBitVec.toNat:Nat):Int)=(b.toNat:Int):=by
 rw [wrap32]
 have:=R6 b
 show ((b.toNat%4294967296:Nat):Int)=_
 omega
theorem YA{a b:UInt32}:IntKind.u32.wrap ((a.toNat:Int)+(b.toNat:Int))=((a+b).toNat:Int):=by
 rw [show (a.toNat:Int)+(b.toNat:Int)=((a.toNat+b.toNat:Nat):Int) by omega,wrap32,UInt32.toNat_add]
theorem XF{a b:UInt32}:IntKind.u32.wrap (BitVec.ofInt IntKind.u32.bits (a.toNat:Int) ^^^ BitVec.ofInt IntKind.u32.bits (b.toNat:Int)).toNat=((a ^^^ b).toNat:Int):=by
 rw [MQ,MQ]; exact Z4 (a ^^^ b)
theorem my{a b:UInt32}:IntKind.u32.wrap (BitVec.ofInt IntKind.u32.bits (a.toNat:Int) &&& BitVec.ofInt IntKind.u32.bits (b.toNat:Int)).toNat=((a &&& b).toNat:Int):=by
 rw [MQ,MQ]; exact Z4 (a &&& b)
theorem zD{a b:UInt32}:IntKind.u32.wrap (BitVec.ofInt IntKind.u32.bits (a.toNat:Int) ||| BitVec.ofInt IntKind.u32.bits (b.toNat:Int)).toNat=((a ||| b).toNat:Int):=by
 rw [MQ,MQ]; exact Z4 (a ||| b)
theorem I1{a:UInt32}:IntKind.u32.wrap (BitVec.ofInt IntKind.u32.bits IntKind.u32.max ^^^ BitVec.ofInt IntKind.u32.bits (a.toNat:Int)).toNat=((~~~a).toNat:Int):=by
 rw [MQ,← Z4]
 congr 1
theorem R7{a:UInt32}:IntKind.u32.wrap (0-(a.toNat:Int))=((-a).toNat:Int):=by
 rw [UInt32.toNat_neg]
 have:=R6 a
 simp only [IntKind.wrap,IntKind.signed,IntKind.bits,Bool.false_and,L0,if_false,UInt32.size]
 omega
theorem I2(a k:Nat):((a:Int).fdiv (2 ^ k))=((a >>> k:Nat):Int):=by
 rw [Int.fdiv_eq_ediv_of_nonneg _ (Int.pow_nonneg Tb),Nat.shiftRight_eq_div_pow]
 norm_cast
theorem Yz{a:UInt32}{j:Int}(s:UInt32)(hj:j=(s.toNat:Int))(hs:s.toNat<32):(a.toNat:Int).fdiv (2 ^ (min j.toNat IntKind.u32.bits))=((a >>> s).toNat:Int):=by
 subst hj
 rw [show min (s.toNat:Int).toNat IntKind.u32.bits=s.toNat by show min _ 32=_; omega,I2,UInt32.toNat_shiftRight,Nat.mod_eq_of_lt hs]
theorem xL{a:UInt32}{j:Int}(s:UInt32)(hj:j=(s.toNat:Int))(hs:s.toNat<32):IntKind.u32.wrap ((a.toNat:Int)*2 ^ (min j.toNat IntKind.u32.bits))=((a <<< s).toNat:Int):=by
 subst hj
 rw [show min (s.toNat:Int).toNat IntKind.u32.bits=s.toNat by show min _ 32=_; omega,UInt32.toNat_shiftLeft,Nat.mod_eq_of_lt hs,Nat.shiftLeft_eq,
  show (a.toNat:Int)*2 ^ s.toNat=((a.toNat*2 ^ s.toNat:Nat):Int) by norm_cast,wrap32]
theorem zF{a:UInt32}:IntKind.u8.wrap (a.toNat:Int)=(a.toUInt8.toNat:Int):=by
 rw [I0,UInt32.toNat_toUInt8]
theorem th{b:UInt8}:IntKind.u32.wrap (b.toNat:Int)=(b.toUInt32.toNat:Int):=by
 rw [wrap32,UInt8.toNat_toUInt32]
 have:=b.toNat_lt
 omega
theorem cW{S:Tk}{m:Int}(n:UInt32)(h:m=(n.toNat:Int)):ev S (.const (.int .u32 m))=some (.int .u32 (n.toNat:Int)):=by rw [h]; rfl
theorem R8{n:Nat}(h:n<4294967296):IntKind.u32.wrap (n:Int)=((UInt32.ofNat n).toNat:Int):=by
 rw [wrap32,UInt32.toNat_ofNat']
theorem tj{a:Nat}(b:Nat)(h:a+b≤9223372036854775807):IntKind.i64.wrap ((a:Int)+(b:Int))=((a+b:Nat):Int):=by
 have e:(a:Int)+(b:Int)=((a+b:Nat):Int):=by norm_cast
 rw [e]; exact Ql Ta Ta
theorem Gu(a:Nat){b:Nat}(h:a*b≤9223372036854775807):IntKind.i64.wrap ((a:Int)*(b:Int))=((a*b:Nat):Int):=by
 have e:(a:Int)*(b:Int)=((a*b:Nat):Int):=by norm_cast
 rw [e]; exact Ql Ta Ta
theorem wg{a:Nat}(b:Nat)(h:b≤a)(h2:a≤9223372036854775807):IntKind.i64.wrap ((a:Int)-(b:Int))=((a-b:Nat):Int):=by
 have e:(a:Int)-(b:Int)=((a-b:Nat):Int):=by omega
 rw [e]; exact Ql Ta Ta
end Go.Cx
namespace Go.Cx
open Go
def Gv(i k:Nat):UInt32:=if k<i then Pl.Yv (UInt32.ofNat k) else 0
def gI(i:Nat):List Value:=(List.range 16).map fun k=>.int .u32 ((Gv i k).toNat:Int)
theorem Gw(i:Nat):(gI i).length=16:=by simp [gI]
theorem Gx{i:Nat}(hi:i<16):aU (gI i) (0+((i:Nat):Int).toNat*1) [.int .u32 ((Pl.Yv (UInt32.ofNat i)).toNat:Int)]=gI (i+1):=by
 simp only [LD,LV,Nat.mul_one,aU,Yg]
 apply Kb
 intro j
 rw [List.getElem?_set]
 unfold gI
 by_cases hj:j<16
 · simp only [Lj,List.length_range,Lt,List.getElem?_range hj,Option.map_some]
   split
   · rename_i e
     subst e
     simp [hi,Gv]
   · rename_i e
     congr 3
     unfold Gv
     by_cases h1:j<i
     · simp [h1,show j<i+1 by omega]
     · simp [h1,show ¬ j<i+1 by omega]
 · rw [L8 (by simp; omega),L8 (by simp; omega)]
   split
   · omega
   · rfl
theorem xM(x:UInt32)(h:x.toNat<16):nth (gI 16) (0+((x.toNat:Nat):Int).toNat*1)=some (.int .u32 ((Pl.Yv x).toNat:Int)):=by
 rw [XN,LD,LV,Nat.mul_one]
 unfold gI
 rw [Lt,List.getElem?_range h]
 simp only [Option.map_some,Gv,LI h]
 rw [UInt32.ofNat_toNat]
def R9:Nat→UInt32→UInt32
 | 0,x=>x
 | n+1,x=>Pl.Vb (R9 n x)
theorem tk{bs:Th}{i:Nat}{c:UInt8}(h:bs[i]?=some c)(r:UInt32):Pl.VY r (bs.take (i+1))=Pl.qH (Pl.VY r (bs.take i)) c:=by
 rw [LC,h,Pl.mw]; rfl
theorem Cv(r:UInt32)(c:UInt8):((((r ^^^ c.toUInt32) >>> 4) ^^^ Pl.Yv ((r ^^^ c.toUInt32) &&& 15)) >>> 4) ^^^ Pl.Yv ((((r ^^^ c.toUInt32) >>> 4) ^^^ Pl.Yv ((r ^^^ c.toUInt32) &&& 15)) &&& 15)=Pl.qH r c:=by
 rw [Pl.te,Pl.te]; rfl
theorem xN{s:UInt32}{j:Nat}(h:j<4):(Pl.tf s)[j]?=some (s >>> UInt32.ofNat (8*j)).toUInt8:=by
 match j,h with
 | 0,_=>simp [Pl.tf]
 | 1,_=>rfl
 | 2,_=>rfl
 | 3,_=>rfl
theorem Rd.mz{w:World}{p:Tg}{xs:Th}{cap l:Nat}(h:Rd w p (xs.flatMap Jk))(eQ:xs.length≤cap):Rd w (Cx.bP p cap l 1) ((xs.drop l).flatMap Jk):=by
 have:=h.sub (l:=l) (m:=xs.length) eQ
 rwa [LZ (by rw [Lm]; omega)] at this
theorem Rd.tn{w:World}{p:Tg}{xs:Th}{cap m:Nat}(h:Rd w p (xs.flatMap Jk))(eQ:xs.length≤cap):Rd w (Cx.bP p cap 0 1) ((xs.take m).flatMap Jk):=by
 have:=h.sub (l:=0) (m:=m) eQ
 rwa [List.drop_zero] at this
theorem pq{p:Tg}{cap:Nat}(h:cap≠0→∀ ad,p=some ad→ad.spot=none)(hc:cap≠0){ad:Addr}(e:bP p cap 0 1=some ad):ad.spot=none:=by
 rw [XW (fun a ha=>h hc a ha)] at e
 exact h hc ad e
section
variable {P:Program}{md:Md}{w:World}{n:Nat}{D:List Deferred}{S:Tk}{dst:Option Tmp}{ty:TypeId}{pos:String}{af:Array Edge}{g:Option (Nat×Bool)}
theorem tp{T e es bs:Nat}{x y z:Operand}{p:Tg}{l c hn mn:Nat}{k1 k2:IntKind}(hx:ev S x=some (.slice p l c))(hT:QH P T=some (e,es,bs))
 (hy:ev S y=some (.int k1 hn)) (hz:ev S z=some (.int k2 mn)) (h1:hn≤mn) (h2:mn≤c):∀ a,Fr a n D S→Yl P md w a ⟨dst,.slice T x none (some y) (some z),ty,pos,af,g⟩ (.slice p hn mn):=fun a hf u _=>by
 obtain ⟨hu,i,PG,hs,_⟩:=Qq hT
 have hsz:(sizeOf e).run P u=.ok es u:=by simp [sizeOf,typeInfo,PG,hs]
 have e1:∀ (k':IntKind) (m y:Nat) (cd:BoundsCode),m≤y→(Instr.sliceBound (.int k' m) y cd).run P u=.ok m u:=fun k' m y cd h=>by
  have h':(m:Int)≤y:=by omega
  simp [Instr.sliceBound,asIntOf,h']
 have hb:(Instr.sliceBounds true l c none (some (a.eval y)) (some (a.eval z))).run P u=.ok (0,hn,mn) u:=by
  unfold Instr.sliceBounds
  simp [hf.eval hy,hf.eval hz,e1 k2 mn c _ h2,e1 k1 hn mn _ h1]
 have hp:(if mn=0 then p else p.map (·.add (0*es)))=p:=by
  split
  · rfl
  · cases p with
    | none=>rfl
    | some ad=>simp [Addr.add]
 simp only [execOp,Option.map_none,Option.map_some,Instr.sliceAt,Instr.slice,hf.eval hx,Sem.run_bind,JC hu,Result.andThen_ok,hb,hsz,Sem.run_pure,hp,Nat.sub_zero]
end
section
variable {P:Program}{r:Option Nat}{k:Ks}{ops:Array Oper}{md:Md}{n:Nat}{D:List Deferred}{S:Tk}{w:World}{i:Nat}{t:Tr}
variable {ty:TypeId}{pos:String}{af:Array Edge}{g:Option (Nat×Bool)}{dst:Option Tmp}{d:Nat}{w0:World}{X:Bs}{L:Tf}
theorem pt{T e es bs:Nat}{s x:Operand}{ts:Array TypeId}{p q:Tg}{na cap m c:Nat}{cells new z:Ti}{T2:TypeId}{x2:TypeId×Nat×Nat}
 (ho:eL ops S i=some (⟨dst,.call ⟨.builtin .append,#[s,x],ts⟩,ty,pos,af,g⟩,d)) (hd:Nat.blt d n=true) (hs:ev S s=some (.slice p na cap)) (hx:ev S x=some (.slice q m c)) (dU:ts[0]?=some T) (dQ:ts[1]?=some T2)
 (hT:QH P T=some (e,es,bs)) (oO:QH P T2=some x2) (hz:iF P e=some z) (cV:z.length=es) (hq:Rd w q new) (bR:new.length=m*es) (hp:Rd w p cells) (hc:cells.length=na*es)
 (eQ:cap<na+m) (hm:Mem w0 w X L) (hb:(na+m)*bs≤140737488355328) (rX:na+m<2 ^ 63)
 (h:∀ aV g' b' w',Acc e es (some ⟨g',0,none⟩) (na+m) aV (cells++new) g' b'→Mem w0 w' X ((g',b')::L)→HR P r k ops none n D ((d,.slice (some ⟨g',0,none⟩) (na+m) aV)::S) t w'):HR P r k ops none n D S (.act i t) w:=by
 have aN:=(Yi (P:=P) (w:=w) (ty:=ty) (c:=c) (cap:=cap) hT dU dQ oO hz hq bR hp hc hb rX).2 eQ
 have kV:(Builtin.zeroCells ⟨z⟩ (Qa w (na+m) cap e-(na+m))).toList.length=(Qa w (na+m) cap e-(na+m))*es:=by
  rw [← cV]; simp [Builtin.zeroCells]
 have iA:=VV w (na+m) cap e
 have hlen:(cells++new).length=(na+m)*es:=by rw [Lc,hc,bR,Kh]
 have fb:=(hm.ext (Va w)).alloc (ag.row e (cells++new++(Builtin.zeroCells ⟨z⟩ (Qa w (na+m) cap e-(na+m))).toList))
 refine Vv ho hd rfl (fun a hf=>?_) trivial (h (Qa w (na+m) cap e) w.drew.heap.size _ _ ⟨hlen,.inr ⟨_,rfl,rfl,iA,?_,?_⟩⟩ fb)
 · simp only [execOp,resolve,List.map_toArray,Ka,List.map_nil,hf.eval hs,hf.eval hx,Sem.run_bind,Sem.run_pure,Result.andThen_ok,invoke,builtin,aN]
   rfl
 · rw [Lc,hlen,kV,← Kh]
   congr 1; omega
 · rw [← hlen]; exact Kj
end
end Go.Cx
namespace Go.Pl
structure Rc where
 sq:Int
 id:Int
 cu:Int
 of:Int
 bs:Th
def ob(r:Rc):Prop:=(0≤r.sq∧r.sq≤18446744073709551615)∧(0≤r.id∧r.id≤18446744073709551615)∧aA r.cu∧aA r.of
def bt(r:Rc):Bool:=decide (0≤r.cu∧r.cu≤4611686018427387903∧0≤r.of∧r.of≤4611686018427387903∧r.bs.length≤1048576)
theorem Q5{r:Rc}:bt r=true↔0≤r.cu∧r.cu≤4611686018427387903∧0≤r.of∧r.of≤4611686018427387903∧r.bs.length≤1048576:=by simp [bt]
def bJ:List UInt8:=[71,74,82,49]
def eR(r:Rc):List (Int×Int):=[(r.sq,8),(r.id,8),(r.cu,8),(r.of,8),((r.bs.length:Int),4)]
def gJ(r:Rc):List UInt8:=bJ++Vl (eR r)++r.bs
def fW(u:Th):List UInt8:=u++tf (qI u)
def aC(r:Rc):List UInt8:=fW (gJ r)
def jy(b:Th):Bool:=decide (4≤b.length)&&decide (b.drop (b.length-4)=tf (qI (b.take (b.length-4))))
theorem mA(u:Th):(fW u).length=u.length+4:=by unfold fW; rw [Lc]; rfl
theorem qJ(u:Th):jy (fW u)=true:=by
 unfold jy
 rw [mA,show u.length+4-4=u.length by omega,LQ Ta]
 unfold fW
 rw [List.drop_left,Kj]
 simp
theorem tq{r:Rc}(h:ob r)(hr:bt r=true):V6 (eR r)=true∧∀ f∈eR r,okF f:=by
 rw [Q5] at hr
 obtain ⟨h1,h2,h3,h4⟩:=h
 have p8:=MD
 have p4:(256:Int) ^ 4=4294967296:=by decide
 refine ⟨?_,?_⟩
 · have t8:(8:Int).toNat=8:=rfl
   have t4:(4:Int).toNat=4:=rfl
   simp only [V6,eR,List.all_cons,List.all_nil,fits,Bool.and_true,LJ,LO,t8,t4,p8,p4]
   simp only [aA] at h3 h4
   omega
 · intro f hf
   simp only [eR,LR,Kd,or_false] at hf
   rcases hf with rfl | rfl | rfl | rfl | rfl <;> simp only [okF,aA] <;> omega
theorem pv(r:Rc):Vl (eR r)=be r.sq 8++(be r.id 8++(be r.cu 8++(be r.of 8++be (r.bs.length:Int) 4))):=by
 simp only [Vl,eR,Lk,LY,Lq]
 rfl
theorem YO(r:Rc):(bJ++Vl (eR r)).length=40:=by
 rw [pv]; simp only [Lc,YY]; rfl
theorem iW(r:Rc):(gJ r).length=40+r.bs.length:=by
 unfold gJ; rw [Lc,YO]
theorem VC(r:Rc):(aC r).length=44+r.bs.length:=by
 unfold aC; rw [mA,iW]; omega
structure Rd5 where
 ok:Bool
 st:RS
 sq:Int
 id:Int
 cu:Int
 of:Int
 n:Int
def PJ(h:Th):Rd5:=
 let e:=bk h ⟨0,0,0⟩ bJ 19
 let a:=aJ h e.1 8
 let b:=aJ h a.1 8
 let c:=bH h b.1
 let d:=bH h c.1
 let n:=aJ h d.1 4
 ⟨e.2,n.1,a.2,b.2,c.2,d.2,n.2⟩
def eE(b:Th):Option Rc:=
 let x:=PJ (b.take 40)
 if x.ok=false∨¬ (x.st.code=0∧x.st.fat=0)∨ba x.n=0∨(b.length:Int)<ba x.n then none
 else if jy (b.take (ba x.n).toNat)=true then some ⟨x.sq,x.id,x.cu,x.of,((b.take (ba x.n).toNat).take ((b.take (ba x.n).toNat).length-4)).drop 40⟩ else none
theorem jax(l:Th)(h:l.length≤4):0≤num 0 l∧num 0 l<4294967296:=by
 have h1:=kg l 0 Tb
 have h2:(256:Int) ^ l.length≤256 ^ 4:=vO h
 have h3:(256:Int) ^ 4=4294967296:=by decide
 omega
theorem Y3{pre post:Th}{v n:Int}(h0:0≤v)(hf:fits v n=true):aJ (pre++(be v n.toNat++post)) ⟨pre.length,0,0⟩ n=(⟨pre.length+n.toNat,0,0⟩,v):=by
 have hn:=lK hf
 have hu:=Cb hf
 have ht:bI (pre++(be v n.toNat++post)).length ⟨pre.length,0,0⟩ n=(⟨pre.length+n.toNat,0,0⟩,true):=by
  unfold bI
  rw [LH Tc,LH Ta,LH (by simp only [Lc,YY]; omega)]
 unfold aJ
 rw [hu,ht]
 simp only [if_true]
 rw [List.drop_left,List.take_append_of_le_length (by rw [YY]; exact LP _),LZ (by rw [YY]; exact LP _),Gj h0 hf]
theorem jA{pre post:Th}{v:Int}(h0:0≤v∧v≤4611686018427387903)(hf:fits v 8=true):bH (pre++(be v 8++post)) ⟨pre.length,0,0⟩=(⟨pre.length+8,0,0⟩,v):=by
 have h:=Y3 (pre:=pre) (post:=post) h0.1 hf
 have e8:(8:Int).toNat=8:=rfl
 rw [e8] at h
 unfold bH
 rw [h,LH Td]
theorem Cw{r:Rc}(h:ob r)(hr:bt r=true):PJ (bJ++Vl (eR r))=⟨true,⟨40,0,0⟩,r.sq,r.id,r.cu,r.of,(r.bs.length:Int)⟩:=by
 have b7:=(tq h hr).1
 rw [Q5] at hr
 simp only [V6,eR,List.all_cons,List.all_nil,Bool.and_true,LJ] at b7
 obtain ⟨f1,f2,f3,f4,f5⟩:=b7
 rw [pv]
 have e0:bk (bJ++(be r.sq 8++(be r.id 8++(be r.cu 8++(be r.of 8++be (r.bs.length:Int) 4))))) ⟨0,0,0⟩ bJ 19=(⟨4,0,0⟩,true):=by
  unfold bk
  rw [LH Tc]
  have hl:(bJ++(be r.sq 8++(be r.id 8++(be r.cu 8++(be r.of 8++be (r.bs.length:Int) 4))))).length=40:=by simp only [Lc,YY]; rfl
  rw [hl]
  have e2:min bJ.length (40-(⟨0,0,0⟩:RS).at_)=4:=rfl
  rw [e2,List.drop_zero,List.take_append_of_le_length Tb,LH Tc]
  rfl
 have e1:=Y3 (pre:=bJ) (post:=be r.id 8++(be r.cu 8++(be r.of 8++be (r.bs.length:Int) 4))) h.1.1 f1
 have e2:=Y3 (pre:=bJ++be r.sq 8) (post:=be r.cu 8++(be r.of 8++be (r.bs.length:Int) 4)) h.2.1.1 f2
 have e3:=jA (pre:=bJ++be r.sq 8++be r.id 8) (post:=be r.of 8++be (r.bs.length:Int) 4) ⟨hr.1,hr.2.1⟩ f3
 have e4:=jA (pre:=bJ++be r.sq 8++be r.id 8++be r.cu 8) (post:=be (r.bs.length:Int) 4) ⟨hr.2.2.1,hr.2.2.2.1⟩ f4
 have e5:=Y3 (pre:=bJ++be r.sq 8++be r.id 8++be r.cu 8++be r.of 8) (post:=[]) (by omega:0≤(r.bs.length:Int)) f5
 have l0:bJ.length=4:=rfl
 have t8:(8:Int).toNat=8:=rfl
 have t4:(4:Int).toNat=4:=rfl
 simp only [t8,t4,Lc,YY,l0,Lp,Lq,Nat.reduceAdd] at e1 e2 e3 e4 e5
 unfold PJ
 simp only [e0,e1,e2,e3,e4,e5]
theorem zG{r:Rc}(h:ob r)(hr:bt r=true)(more:Th):eE (aC r++more)=some r:=by
 have ZW:=Q5.1 hr
 have ht:(aC r++more).take 40=bJ++Vl (eR r):=by
  unfold aC fW gJ
  rw [Lp,Lp (bJ++Vl (eR r)),List.take_append_of_le_length (by rw [YO]; exact LP _),LZ (by rw [YO]; exact LP _)]
 have hz:ba (r.bs.length:Int)=44+r.bs.length:=by unfold ba; rw [LH Ta]; omega
 have ha:(aC r++more).take (44+(r.bs.length:Int)).toNat=aC r:=by
  rw [show (44+(r.bs.length:Int)).toNat=(aC r).length by rw [VC]; omega]
  exact Kj
 unfold eE
 simp only [ht,Cw h hr,hz,ha]
 rw [LH (by rw [Lc,VC]; simp; omega)]
 rw [LI (by exact qJ _)]
 congr 1
 have hb:((aC r).take ((aC r).length-4)).drop 40=r.bs:=by
  have e1:(aC r).length-4=(gJ r).length:=by rw [VC,iW]; omega
  rw [e1]
  unfold aC fW
  rw [Kj]
  unfold gJ
  rw [show 40=(bJ++Vl (eR r)).length by rw [YO],List.drop_left]
 rw [hb]
end Go.Pl
namespace Go.Pl
theorem MR(h:Th)(s:RS):0≤(aJ h s 4).2∧(aJ h s 4).2<4294967296:=by
 unfold aJ
 split
 · exact jax _ (by rw [Lg]; show min 4 _≤4; omega)
 · simp
theorem mB{bs:Th}{s:RS}(h:s.at_≤bs.length):(bH bs s).1.at_≤bs.length:=by
 unfold bH
 split
 · rw [xz]; exact YF h
 · exact YF h
theorem wh{bs ds:Th}{s:RS}{c:Int}(h:s.at_≤bs.length):(bk bs s ds c).1.at_≤bs.length:=by
 unfold bk
 split
 · exact h
 · split
   · rw [xz]; exact h
   · exact sP h
def Fz:Rc:=⟨0,0,0,0,[]⟩
end Go.Pl
namespace Go.Cx
open Go
def Bk(r:Pl.Rc)(p:Tg)(n cap:Nat):List Value:=[.int .u64 r.sq,.int .u64 r.id,.int .i64 r.cu,.int .i64 r.of,.slice p n cap]
structure dR where
 sq:Int
 id:Int
 cu:Int
 of:Int
 d:SB
def dR.rc(x:dR):Pl.Rc:=⟨x.sq,x.id,x.cu,x.of,x.d.bs⟩
def Xz(x:dR):List Value:=[.int .u64 x.sq,.int .u64 x.id,.int .i64 x.cu,.int .i64 x.of,.slice x.d.p x.d.bs.length x.d.cap]
theorem Vn(x:dR):(Xz x).length=5:=rfl
end Go.Cx
namespace Go.Cx
open Go
def xO(P:Program)(t:TypeId)(name:String):Option FuncId:=
 match P.info? t with
 | none=>none
 | some i=>match i.methods.find? (·.name==name) with
  | none=>none
  | some m=>match m.path.toList,m.func,P.underlying t with
   | [],some (f,false),some (.struct _)=>some f
   | _,_,_=>none
section
variable {P:Program}{r:Option Nat}{k:Ks}{ops:Array Oper}{md:Md}{n:Nat}{D:List Deferred}{S:Tk}{w:World}{i d:Nat}{dst:Option Tmp}{ty:TypeId}{pos:String}{af:Array Edge}{g:Option (Nat×Bool)}{t:Tr}
theorem wi{u:TypeId}{name:String}{f:FuncId}{v:Value}{fuel:Nat}(h:xO P u name=some f):(method (fuel+1) u v name).run P w=.ok (f,v) w:=by
 unfold xO at h
 split at h
 · cases h
 rename_i ti hi
 split at h
 · cases h
 rename_i m hm
 split at h
 · rename_i hp hf hu
   simp only [Option.some.injEq] at h
   subst h
   unfold method
   simp [typeInfo,hi,hm,hp,hf,follow,receiverAt,JC hu,Place.get]
 · cases h
theorem wj{x:Operand}{name:String}{as:Array Operand}{ts:Array TypeId}{f:FuncId}{u:TypeId}{v:Value}{vs:Ti}{a:Act}(hf:Fr a n D S)(hx:ev S x=some (.iface u v))(ha:fL S as.toList=some vs)(hm:xO P u name=some f)(hg:JH P f=true) :
 (execOp a.eval ⟨dst,.call ⟨.invoke x name,as,ts⟩,ty,pos,af,g⟩).run P w=.ok (.enter f ⟨v::vs⟩) w:=by
 have h1:as.map a.eval=⟨vs⟩:=by obtain ⟨l⟩:=as; simpa using hf.kN ha
 obtain ⟨q,hq⟩:∃ q,P.types.size+Made.depth=q+1:=⟨P.types.size+Made.depth-1,by have h9:0<Made.depth:=(by decide); omega⟩
 have h2:(callMethod (.iface u v) name ⟨vs⟩).run P w=.ok (.enter f ⟨v::vs⟩) w:=by
  simp only [callMethod,Sem.run_bind,run_program,Result.andThen_ok]
  rw [hq,wi hm]
  simp only [Result.andThen_ok]
  rw [gr hg]
  simp
 simp [execOp,resolve,hf.eval hx,h1,invoke,h2]
theorem tt{x:Operand}{name:String}{as:Array Operand}{ts:Array TypeId}{f:FuncId}{u:TypeId}{v0:Value}{vs:Ti}{R:Value→World→Prop}(ho:eL ops S i=some (⟨dst,.call ⟨.invoke x name,as,ts⟩,ty,pos,af,g⟩,d))(hd:Nat.blt d n=true)
 (hx:ev S x=some (.iface u v0)) (ha:fL S as.toList=some vs) (hm:xO P u name=some f) (hg:JH P f=true) (hc:C P f (v0::vs) w R) (h:∀ v w',R v w'→aQ md w'∧HR P r k ops md n D ((d,v)::S) t w'):HR P r k ops md n D S (.act i t) w:=fun a hf=>by
 obtain ⟨h1,h2,h3⟩:=V4 ho hf
 refine ⟨_,h1,fun _=>?_,fun hw=>by rw [h2] at hw; cases hw⟩
 refine X5 (f:=f) (args:=⟨v0::vs⟩) (R:=R) rfl ?_ hc fun v w' hR=>⟨(h v w' hR).1,?_⟩
 · exact wj hf hx ha hm hg
 · rw [h3]
   exact (h v w' hR).2 _ (hf.put v hd)
def Sa(P:Program)(t:TypeId):Bool:=match P.underlying t with
 | some (.struct _)=>true
 | _=>false
theorem tu{t:TypeId}{x:Operand}{v:Value}(hx:ev S x=some v)(h:Sa P t=true):∀ a,Fr a n D S→Yl P md w a ⟨dst,.makeInterface t x,ty,pos,af,g⟩ (.iface t v):=by
 unfold Sa at h
 split at h
 · rename_i hu
   exact xp hx hu rfl
 · cases h
end
end Go.Cx
namespace Go.Cx
open Go
theorem wk{P:Program}{w:World}{T e es bs c:Nat}{p:Tg}{ty:TypeId}(hT:QH P T=some (e,es,bs)):(Builtin.clear_ #[T] ty #[.slice p 0 c]).run P w=.ok (.tuple #[]) w:=by
 obtain ⟨hu,i,hi,hsz,BI⟩:=Qq hT
 unfold Builtin.clear_
 simp only [List.getElem?_toArray,L2,Sem.run_bind,JC hu,Result.andThen_ok]
 cases p <;> rfl
theorem zH{P:Program}{w:World}{T e es bs g o m c:Nat}{ty:TypeId}{l z:Ti}(hT:QH P T=some (e,es,bs))(hz:iF P e=some z)(cV:z.length=es)(h1:z.all (·.oneCell')=true)(hg:w.heap[g]?=some (ag.row e l).Jd)(b7:o+m*es≤l.length)(h0:m≠0) :
 (Builtin.clear_ #[T] ty #[.slice (some ⟨g,o,none⟩) m c]).run P w=.ok (.tuple #[]) (w.setRow g ⟨aU l o (Qn z m)⟩):=by
 obtain ⟨hu,i,hi,hsz,BI⟩:=Qq hT
 obtain ⟨zv,ql,kV⟩:=XH (w:=w) hz
 have Cy:(Qn z m).length=m*es:=by rw [Qg,cV]
 have hle:o+(Qn z m).length≤l.length:=by rw [Cy]; exact b7
 have cF:=run_storeCells_at P g o e (Qn z m) 0 ⟨l⟩ w hg (by simpa using hle) (by simpa using lE z m h1)
 simp only [Nat.add_zero] at cF
 rw [← QT (Qn z m) l o hle] at cF
 obtain ⟨k,rfl⟩:∃ k,m=k+1:=⟨m-1,Ta⟩
 unfold Builtin.clear_
 simp only [List.getElem?_toArray,L2,Sem.run_bind,JC hu,Result.andThen_ok,ql,kV,Yf,cF]
 rfl
theorem Acc.clear{e es bs g n cap o dc T:Nat}{ty:TypeId}{b:ag}{p:Tg}{cells z:Ti}{w0 w:World}{X:Bs}{L:Tf}{P:Program}(ha:Acc e es p n cap cells g b)(hm:Mem w0 w X L)(j:Nat)(hj:aR L j=some (g,b))(ho:o≤n)
 (hT:QH P T=some (e,es,bs)) (hz:iF P e=some z) (cV:z.length=es) (h1:z.all (·.oneCell')=true) :
 ∃ b' w',(Builtin.clear_ #[T] ty #[.slice (bP p cap o es) (n-o) dc]).run P w=.ok (.tuple #[]) w'∧Acc e es p n cap (aU cells (o*es) (Qn z (n-o))) g b'∧Mem w0 w' X (QQ L j (g,b'))∧b'.real=b.real:=by
 by_cases h0:n-o=0
 · refine ⟨b,w,by rw [h0]; exact wk hT,by rw [h0]; exact ha,by rw [oY L j _ hj]; exact hm,rfl⟩
 · rcases ha.cases' with ⟨h2,h3,_⟩ | ⟨l,rfl,rfl,vo,r5,oP⟩
   · omega
   · have hco:cap≠o:=by omega
     have cU:bP (some ⟨g,0,none⟩) cap o es=some ⟨g,o*es,none⟩:=by unfold bP; rw [LH hco]; simp
     have RP:n*es≤cap*es:=Lr _ vo
     have jao:o*es+(n-o)*es=n*es:=by rw [← Kh]; congr 1; omega
     have bL:=ha.len
     have Cy:(Qn z (n-o)).length=(n-o)*es:=by rw [Qg,cV]
     rw [cU]
     refine ⟨.row e (aU l (o*es) (Qn z (n-o))),_,zH hT hz cV h1 (hm.get hj) Ta h0,⟨by rw [Q2,bL],.inr ⟨_,rfl,rfl,vo,by rw [Q2,r5],?_⟩⟩,?_,rfl⟩
     · rw [QT _ l _ Ta,QT _ cells _ Ta,← oP,List.take_append,List.take_append]
       simp only [Lg,Lc,List.take_take,List.drop_take]
       have e1:min (n*es) (o*es)=o*es:=by omega
       have e2:min (o*es) (n*es)=o*es:=by omega
       have e3:min (o*es) l.length=o*es:=by omega
       rw [e1,e2,e3,LZ (l:=Qn z (n-o)) Ta]
     · rw [← gA L j g _ _ hj]
       exact Qk hm hj
theorem Acc.head{e es g n cap i:Nat}{b:ag}{p:Tg}{cells:Ti}(ha:Acc e es p n cap cells g b)(h:i≤n):Acc e es p i cap (cells.take (i*es)) g b:=by
 have hle:i*es≤n*es:=Lr _ h
 refine ⟨by rw [Lg,ha.len]; omega,?_⟩
 rcases ha.cases' with ⟨h2,h3,h4⟩ | ⟨l,h2,h3,vo,r5,oP⟩
 · exact .inl ⟨Ta,h3,h4⟩
 · exact .inr ⟨l,h2,h3,Ta,r5,by rw [← oP,List.take_take]; congr 1; omega⟩
section
variable {P:Program}{r:Option Nat}{k:Ks}{ops:Array Oper}{n:Nat}{D:List Deferred}{S:Tk}{w:World}{i:Nat}{t:Tr}
variable {ty:TypeId}{pos:String}{af:Array Edge}{g:Option (Nat×Bool)}{dst:Option Tmp}{d:Nat}{w0:World}{X:Bs}{L:Tf}
theorem Sb{md:Md}{o:Oper}{v:Value}{w':World}(ho:j7 ops S i=some o)(hp:vC o=true)(aN:∀ a,Fr a n D S→(execOp a.eval o).run P w=.ok (.value v) w')
 (hh:aQ md w') (h:HR P r k ops md n D S t w'):HR P r k ops md n D S (.act i t) w:=fun a hf=>by
 obtain ⟨h1,h2,h3⟩:=YH ho hf
 refine ⟨o,h1,fun _=>?_,fun hw=>by rw [h2] at hw; cases hw⟩
 unfold rV
 rw [JY hp,aN a hf]
 refine ⟨hh,?_⟩
 rw [h3]
 exact h _ hf
theorem mC{T e es bs:Nat}{x:Operand}{p:Tg}{na cap o dl dc gg:Nat}{b:ag}{cells z:Ti}
 (ho:j7 ops S i=some ⟨dst,.call ⟨.builtin .clear,#[x],#[T]⟩,ty,pos,af,g⟩) (hx:ev S x=some (.slice (bP p cap o es) dl dc))
 (hT:QH P T=some (e,es,bs)) (hz:iF P e=some z) (cV:z.length=es) (h1:z.all (·.oneCell')=true) (eM:dl=na-o) (hle:o≤na) (ha:Acc e es p na cap cells gg b)
 (hm:Mem w0 w X L) (j:Nat) (hj:aR L j=some (gg,b))
 (h:∀ b' w',Acc e es p na cap (aU cells (o*es) (Qn z (na-o))) gg b'→Mem w0 w' X (QQ L j (gg,b'))→HR P r k ops none n D S t w'):HR P r k ops none n D S (.act i t) w:=by
 subst eM
 obtain ⟨b',w',aN,vE,vF,_⟩:=ha.clear (dc:=dc) (ty:=ty) hm j hj hle hT hz cV h1
 refine Sb (v:=.tuple #[]) ho rfl (fun a hf=>?_) trivial (h b' w' vE vF)
 simp [execOp,resolve,invoke,builtin,hf.eval hx,aN]
end
theorem Mem.wm{w:World}{g:Nat}{b:ag}(h:b.real=true→w.heap[g]?=some b.Jd):Mem w w (fun k=>k=g∧b.real=true) [(g,b)]:=
 ⟨rfl,rfl,rfl,LP _,fun _ _ _=>rfl,fun p hp hr=>by rcases Lf.1 hp with rfl; exact h hr,fun p hp hr=>by rcases Lf.1 hp with rfl; exact .inl ⟨rfl,hr⟩,by
  unfold ak; simp only [List.filter_cons,List.filter_nil]; split <;> simp⟩
theorem Mem.Cz{w0 w w':World}{X:Bs}{L:Tf}{g:Nat}{b b':ag}(h:Mem w0 w X L)(j:Nat)(hj:aR L j=some (g,b))(hc:Mem w w' (fun k=>k=g∧b.real=true) [(g,b')]):Mem w0 w' X (QQ L j (g,b')):=by
 have h1:Mem w0 w X ([(g,b)]++L.eraseIdx j):=h.perm (gu L j _ hj)
 have h2:=h1.call hc fun k hk=>by obtain ⟨rfl,hr⟩:=hk; exact JD.2 ⟨b,Tc,hr⟩
 exact h2.perm (iK L j (g,b') _ hj).symm
theorem kj{α:Type}{enc:α→Ti}{es:Nat}(he:∀ x,(enc x).length=es){xs:List α}{i:Nat}(hi:i<xs.length)(y:α):aU (xs.flatMap enc) (i*es) (enc y)=(xs.set i y).flatMap enc:=by
 have hl:=JW he
 have hle:(i+1)*es≤xs.length*es:=Lr _ hi
 rw [Nat.succ_mul] at hle
 have e0:xs=xs.take i++xs.drop i:=(Ke i xs).symm
 have e1:xs.drop i=xs[i]::xs.drop (i+1):=List.drop_eq_getElem_cons hi
 have MS:(xs.take i).length=i:=by rw [Lg]; omega
 rw [QT _ _ _ (by rw [he,hl]; omega),List.set_eq_take_append_cons_drop,LI hi,Lh,Lk,he]
 conv=>lhs; rw [e0,e1]
 have hf:((xs.take i).flatMap enc).length=i*es:=by rw [hl,MS]
 rw [Lh,Lk,List.take_append_of_le_length Ta,LZ Ta,Lp]
 congr 1
 congr 1
 rw [← hf,List.drop_append,List.drop_append,Kk,List.drop_of_length_le Ta,List.drop_of_length_le (l:=enc xs[i]) (by rw [he]; omega),he,Nat.sub_self,List.drop_zero,L4,L4]
theorem Y1:∀ (us l:Ti) (o:Nat),(aU l o us).take o=l.take o
 | [],l,o=>rfl
 | u::us,l,o=>by
  show (aU (za l o u) (o+1) us).take o=_
  have h1:=Y1 us (za l o u) (o+1)
  have h2:=LM (List.take o) h1
  rw [List.take_take,List.take_take,Nat.min_eq_left Ta] at h2
  rw [h2,Yg,List.take_set_of_le (LP _)]
theorem kl{α:Type}{enc:α→Ti}{es:Nat}(he:∀ x,(enc x).length=es)(xs:List α)(i:Nat):(xs.flatMap enc).take (i*es)=(xs.take i).flatMap enc:=by
 by_cases hi:i≤xs.length
 · conv=>lhs; rw [← Ke i xs,Lh]
   have hf:((xs.take i).flatMap enc).length=i*es:=by rw [JW he,Lg,Nat.min_eq_left hi]
   rw [List.take_append_of_le_length Ta,LZ Ta]
 · rw [LZ (l:=xs) Ta,LZ]
   rw [JW he]
   exact Lr _ Ta
theorem X9{α:Type}(p:α→Bool)(xs:List α):(Pl.idx p xs=-1∧xs.filter (fun x=>!p x)=xs)∨∃ (i:Nat) (x:α),Pl.idx p xs=(i:Int)∧xs[i]?=some x∧p x=true∧(xs.take i).filter (fun x=>!p x)=xs.take i:=by
 unfold Pl.idx
 cases h:xs.findIdx? p with
 | none=>
  rw [List.findIdx?_eq_none_iff] at h
  exact .inl ⟨rfl,List.filter_eq_self.2 fun x hx=>by rw [h x hx]; rfl⟩
 | some i=>
  rw [List.findIdx?_eq_some_iff_getElem] at h
  obtain ⟨h1,h2,h3⟩:=h
  refine .inr ⟨i,xs[i],rfl,La h1,h2,List.filter_eq_self.2 fun x hx=>?_⟩
  obtain ⟨j,hj,e⟩:=LU hx
  rw [Lg] at hj
  rw [List.getElem_take] at e
  have:=h3 j Ta
  rw [e] at this
  simpa using this
structure DelI{α:Type}(p:α→Bool)(xs:List α)(j i:Nat)(zs:List α):Prop where
 len:zs.length=xs.length
 le:j≤xs.length
 lt:i<j
 head:zs.take i=(xs.take j).filter fun x=>!p x
 tail:zs.drop j=xs.drop j
section
variable {α:Type}{p:α→Bool}{xs zs:List α}{i j:Nat}{x:α}
theorem DelI.start(hx:xs[i]?=some x)(hp:p x=true)(h:(xs.take i).filter (fun x=>!p x)=xs.take i):DelI p xs (i+1) i xs:=by
 have hl:=(Le.1 hx).1
 refine ⟨rfl,hl,Ta,?_,rfl⟩
 rw [LC,hx,Option.toList,List.filter_append,h,List.filter_cons_of_neg (by rw [hp]; simp),List.filter_nil,Lq]
theorem DelI.at(h:DelI p xs j i zs)(hx:zs[j]?=some x):xs[j]?=some x:=by
 have:=LM (fun l=>l[0]?) h.tail
 simp only [Kc,Nat.add_zero] at this
 rw [← this]; exact hx
theorem DelI.skip(h:DelI p xs j i zs)(hx:zs[j]?=some x)(hp:p x=true):DelI p xs (j+1) i zs:=by
 have BL:=h.at hx
 have hl:=(Le.1 BL).1
 have aX:=h.lt
 refine ⟨h.len,hl,Ta,?_,?_⟩
 · rw [LC,BL,Option.toList,List.filter_append,h.head,List.filter_cons_of_neg (by rw [hp]; simp),List.filter_nil,Lq]
 · have:=LM (List.drop 1) h.tail
   simpa only [List.drop_drop] using this
theorem DelI.put(h:DelI p xs j i zs)(hx:zs[j]?=some x)(hp:p x=false):DelI p xs (j+1) (i+1) (zs.set i x):=by
 have BL:=h.at hx
 have hl:=(Le.1 BL).1
 have aX:=h.lt
 have cV:=h.len
 refine ⟨by rw [List.length_set,h.len],hl,Ta,?_,?_⟩
 · rw [LC,LC,BL,List.filter_append,← h.head,List.take_set_of_le (LP _),List.getElem?_set_self Ta]
   simp only [Option.toList]
   rw [List.filter_cons_of_pos (by rw [hp]; rfl),List.filter_nil]
 · rw [List.drop_set_of_lt Ta]
   have:=LM (List.drop 1) h.tail
   simpa only [List.drop_drop] using this
theorem DelI.done(h:DelI p xs j i zs)(hj:xs.length≤j):zs.take i=xs.filter (fun x=>!p x)∧(xs.filter fun x=>!p x).length=i∧i≤xs.length:=by
 have h1:=h.head
 have h2:=h.le
 have h3:=h.lt
 have h4:=h.len
 rw [LZ hj] at h1
 exact ⟨h1,by rw [← h1,Lg]; omega,Ta⟩
end
theorem Mem.neB{w0 w:World}{X:Bs}{L:Tf}(h:Mem w0 w X L)(i j:Nat){m n:Nat}{b c:ag}(hi:aR L i=some (m,b))(hj:aR L j=some (n,c))(eZ:Nat.beq i j=false)(hb:b.real=true:=by rfl):¬ (m=n∧c.real=true):=fun ⟨e,hc⟩=>h.ne i j hi hj eZ hb hc e
end Go.Cx
