/- Part 5 of the proof of TopBack: PlQ AuA Fcs Ext Byt CmdB. Conditions: the hypotheses of each theorem. -/
import Derived.Test.YtaehgpeenaomcaaGreatV03
import Derived.Test.YtaehgpeenaomcaaGreatChecked
set_option maxRecDepth 10000
set_option maxHeartbeats 4000000
set_option linter.unusedVariables false
set_option linter.unusedSimpArgs false
namespace Go.Pl
theorem CZ(k:Nat)(hk:1≤k):(bk ((List.replicate k (0:UInt8)).take 40) ⟨0,0,0⟩ bJ 19).2=false:=by
 rw [List.take_replicate]
 obtain ⟨m,hm⟩:∃ m,min 40 k=m+1:=⟨min 40 k-1,Ta⟩
 rw [hm]
 unfold bk
 rw [LH Tb,LI]
 intro h
 rw [List.length_replicate,show min bJ.length (m+1-(⟨0,0,0⟩:RS).at_)=min 3 m+1 by show min 4 (m+1-0)=_; omega] at h
 have h9:=LM List.head? h
 simp [List.replicate_succ,bJ] at h9
theorem z6(k:Nat)(hk:1≤k):eE (List.replicate k (0:UInt8))=none:=by
 unfold eE PJ
 simp only
 rw [LI (.inl (CZ k hk))]
theorem pE{E:Dv}{f N i:Nat}(hk:okDv E)(hd:E.dn=false)(hN:1≤N)(h2:f+2*N≤E.cnt)(hi:i<2)(hz:∀ j,aY E f N i≤j→j<aY E f N i+N*E.sz→(contents E)[j]?=some 0):gN E f N i=none:=by
 have h1:=mK h2 hi
 have bL:=Xh hk
 have hNs:1≤N*E.sz:=Nat.mul_pos hN hk.sz
 unfold gN
 have hb:bw E ((aY E f N i:Nat):Int) ((N*E.sz:Nat):Int)=List.replicate (N*E.sz) 0:=by
  unfold bw
  rw [LI (CO hk hd h2 hi),LD,LD]
  apply Kb
  intro j
  rw [LF,List.getElem?_replicate,Kc]
  by_cases hj:j<N*E.sz
  · rw [LI hj,LI hj]; exact hz _ Ta Ta
  · rw [LH hj,LH hj]
 rw [hb]
 exact z6 _ hNs
theorem x'{D:Dv}{f N i:Nat}(hi:i<2):aY D f N i=f*D.sz+i*(N*D.sz):=by
 unfold aY
 rw [Kh,Nat.mul_assoc]
def QX(D:Dv)(f N i:Nat):Option Rc→Prop
 | some r=>ob r∧bt r=true∧(aC r).length≤N*D.sz∧∀ j,j<(aC r).length→D.dk[aY D f N i+j]?=(aC r)[j]?
 | none=>∀ j,j<N*D.sz→D.dk[aY D f N i+j]?=some 0
theorem pF{D:Dv}{f N i:Nat}{o:Option Rc}(hk:okDv D)(hd:D.dn=false)(C0:D.ca=[])(hN:1≤N)(h2:f+2*N≤D.cnt)(hi:i<2)(h:QX D f N i o):gN D f N i=o:=by
 have e2:contents D=D.dk:=by unfold contents; rw [C0]; rfl
 have h1:=mK h2 hi
 have hl:=hk.len
 cases o with
 | none=>
  refine pE hk hd hN h2 hi fun j h3 h4=>?_
  rw [e2]
  have:=h (j-aY D f N i) Ta
  rwa [show aY D f N i+(j-aY D f N i)=j by omega] at this
 | some r=>
  obtain ⟨h3,h4,h5,h6⟩:=h
  unfold gN bw
  rw [LI (CO hk hd h2 hi),LD,LD,e2]
  have e3:((D.dk.drop (aY D f N i)).take (N*D.sz))=aC r++((D.dk.drop (aY D f N i)).take (N*D.sz)).drop (aC r).length:=by
   conv=>lhs; rw [← Ke (aC r).length ((D.dk.drop (aY D f N i)).take (N*D.sz))]
   congr 1
   apply Kb
   intro j
   rw [LF]
   by_cases hj:j<(aC r).length
   · rw [LI hj,LF,LI Ta,Kc]; exact h6 j hj
   · rw [LH hj,L8 Ta]
  rw [e3]
  exact zG h3 h4 _
theorem QX.eq{D E:Dv}{f N i:Nat}{o:Option Rc}(mS:E.dk=D.dk)(hsz:E.sz=D.sz)(h:QX D f N i o):QX E f N i o:=by
 have qW:aY E f N i=aY D f N i:=by unfold aY; rw [hsz]
 cases o with
 | none=>intro j hj; rw [mS,qW]; exact h j (by rw [← hsz]; exact hj)
 | some r=>
  obtain ⟨h1,h2,h3,h4⟩:=h
  exact ⟨h1,h2,by rw [hsz]; exact h3,fun j hj=>by rw [mS,qW]; exact h4 j hj⟩
theorem QX.keep{D E:Dv}{f N i q:Nat}{o:Option Rc}{L:Nat}(hsz:E.sz=D.sz)(hi:i<2)(hq:q<2)(bO:i≠q)(hL:L≤N*D.sz)(mS:∀ j,¬ (aY D f N q≤j∧j<aY D f N q+L)→E.dk[j]?=D.dk[j]?)(h:QX D f N i o):QX E f N i o:=by
 have qW:aY E f N i=aY D f N i:=by unfold aY; rw [hsz]
 have a1:=x' (D:=D) (f:=f) (N:=N) hi
 have a2:=x' (D:=D) (f:=f) (N:=N) hq
 have out:∀ j,j<N*D.sz→¬ (aY D f N q≤aY D f N i+j∧aY D f N i+j<aY D f N q+L):=fun j hj=>by
  rw [a1,a2]
  rcases (show (i=0∧q=1)∨(i=1∧q=0) by omega) with ⟨rfl,rfl⟩ | ⟨rfl,rfl⟩ <;> simp only [Nat.zero_mul,Nat.one_mul] <;> omega
 cases o with
 | none=>intro j hj; rw [hsz] at hj; rw [qW,mS _ (out j hj)]; exact h j hj
 | some r=>
  obtain ⟨h1,h2,h3,h4⟩:=h
  exact ⟨h1,h2,by rw [hsz]; exact h3,fun j hj=>by rw [qW,mS _ (out j Ta)]; exact h4 j hj⟩
theorem C1{D:Dv}{f N:Nat}{k:Int}{a c:Rc}(h0:gN D f N 0=some a)(h1:gN D f N 1=some c)(ha:a.id=k)(hc:c.id=k)(h:a.sq<c.sq):bG D f N k=⟨IntKind.u64.wrap (max a.sq c.sq+1),true,c⟩:=by
 have e:eO D f N=[a,c]:=by unfold eO; rw [h0,h1]; rfl
 unfold bG jof
 rw [e,List.filter_cons_of_pos (by simpa using ha),List.filter_cons_of_pos (by simpa using hc),List.filter_nil]
 have e2:mI [a,c]=c:=LI h
 rw [e2]
 rfl
end Go.Pl
namespace Go.Cx
open Go
theorem bA(a b:Bool):((a&&b)=true)=(a=true∧b=true):=LJ a b
theorem bB(a b:Bool):((a||b)=true)=(a=true∨b=true):=Bool.or_eq_true a b
theorem bC{a b:Bool}:(a&&b)=false↔a=false∨b=false:=Bool.and_eq_false_iff
theorem bD{a b:Bool}:(a||b)=false↔a=false∧b=false:=LS
theorem bE(a:Bool):((!a)=true)=(a=false):=Bool.not_eq_true' a
theorem bF(a:Bool):((!a)=false)=(a=true):=Bool.not_eq_false' a
theorem dT{p:Prop}[Decidable p]:(decide p=true)=p:=LO
theorem dF{p:Prop}{_:Decidable p}:decide p=false↔¬p:=decide_eq_false_iff_not
structure AU(K:Prop)(n:Nat)(G:Prop):Prop where
  h:K→G
class FO(P:Program)(s i:Nat)(o:outParam Nat):Prop where h:Mi P s i=some o
class SC(P:Program)(t:Nat):Prop where h:qi P t=true
class AG(P:Program)(t:Nat)(s:outParam Nat):Prop where h:nW P t=some s
class SL(P:Program)(t:Nat)(e:outParam (TypeId×Nat×Nat)):Prop where h:QH P t=some e
class ZE(P:Program)(t:Nat)(z:outParam Ti):Prop where h:iF P t=some z
class FT(P:Program)(t:Nat)(f:outParam (List (Nat×Nat))):Prop where h:BD P t=some f
class PB(P:Program)(t:Nat):Prop where h:BU P t=true
class At(L:Tf)(m:Nat)(b:outParam ag):Prop where h:(m,b)∈L
section
variable {L M:Tf}{m:Nat}{b:ag}
instance At.here:At ((m,b)::L) m b:=⟨Lo ..⟩
instance At.next{x:Nat×ag}[h:At L m b]:At (x::L) m b:=⟨LX _ h.h⟩
instance At.left [h:At L m b]:At (L++M) m b:=⟨Lw _ h.h⟩
instance At.right [h:At M m b]:At (L++M) m b:=⟨Ly _ h.h⟩
theorem Mem.ft{w0 w:World}{X:Bs}(h:Mem w0 w X L)[ha:At L m b](hr:b.real=true:=by rfl):∀ u,cN none w u→u.heap[m]?=some b.Jd:=fun u hu=>by cases hu; exact h.own _ ha.h hr
theorem Mem.fd{w0 w b':World}{X:Bs}(h:Mem w0 b' X L)[ha:At L m b](hr:b.real=true:=by rfl):∀ u,cN (some (b',No)) w u→u.heap[m]?=some b.Jd:=fun _ hu=>
  (Ext.same hu m (h.lt (p:=(m,b)) ha.h hr) id).trans (h.own _ ha.h hr)
end
structure YS(P:Program)(md:Md)(w:World)(n:Nat)(D:List Deferred)(S:Tk)(o:Oper)(v:Value):Prop where
  h:∀ a,Fr a n D S→Yl P md w a o v
section
variable {P:Program}{md:Md}{n:Nat}{D:List Deferred}{S:Tk}{w:World}{dst:Option Tmp}{ty:TypeId}{pos:String}{af:Array Edge}{g:Option (Nat×Bool)}{t yt:TypeId}{x y:Operand}{v:Value}{k:IntKind}{i j z:Int}{b d:Bool}
theorem C2(hx:ev S x=some v):YS P md w n D S ⟨dst,.move x,ty,pos,af,g⟩ v:=⟨Jx hx⟩
theorem C3(hx:ev S x=some v):YS P md w n D S ⟨dst,.assign x,ty,pos,af,g⟩ v:=⟨J4 hx⟩
theorem SP{s fi m off fo:Nat}(hx:ev S x=some (.pointer (some ⟨m,off,none⟩)))[h:FO P s fi fo]:YS P md w n D S ⟨dst,.fieldAddr s x fi,ty,pos,af,g⟩ (.pointer (some ⟨m,off+fo,none⟩)):=⟨Jv hx h.h⟩
theorem C4{e:TypeId}{m off:Nat}{l:Ti}{w0:World}{X:Bs}{L:Tf}(hx:ev S x=some (.pointer (some ⟨m,off,none⟩)))[h:SC P t](hm:Mem w0 w X L)(ha:At L m (.row e l))(hv:nth l off=some v):YS P none w n D S ⟨dst,.load t x,ty,pos,af,g⟩ v:=⟨Jh hx h.h hm.ft hv⟩
theorem jD{e:TypeId}{m off s:Nat}{l vs:Ti}{w0:World}{X:Bs}{L:Tf}(hx:ev S x=some (.pointer (some ⟨m,off,none⟩)))[h:AG P t s](hm:Mem w0 w X L)(ha:At L m (.row e l))(hv:eP l off s=some vs):YS P none w n D S ⟨dst,.load t x,ty,pos,af,g⟩ (.agg ⟨vs⟩):=⟨Jm hx h.h hm.ft hv⟩
theorem C5{e:TypeId}{m off:Nat}{l:Ti}{w0 b':World}{X:Bs}{L:Tf}(hx:ev S x=some (.pointer (some ⟨m,off,none⟩)))[h:SC P t](hm:Mem w0 b' X L)(ha:At L m (.row e l))(hv:nth l off=some v):YS P (some (b',No)) w n D S ⟨dst,.load t x,ty,pos,af,g⟩ v:=⟨Jh hx h.h hm.fd hv⟩
theorem jE{e:TypeId}{m off s:Nat}{l vs:Ti}{w0 b':World}{X:Bs}{L:Tf}(hx:ev S x=some (.pointer (some ⟨m,off,none⟩)))[h:AG P t s](hm:Mem w0 b' X L)(ha:At L m (.row e l))(hv:eP l off s=some vs):YS P (some (b',No)) w n D S ⟨dst,.load t x,ty,pos,af,g⟩ (.agg ⟨vs⟩):=⟨Jm hx h.h hm.fd hv⟩
theorem C6{p:Tg}(hx:ev S x=some (.pointer p))(hy:ev S y=some (.pointer none))[h:PB P t]:YS P md w n D S ⟨dst,.binOp .eql t x y yt,ty,pos,af,g⟩ (.bool p.isNone):=⟨Mx hx hy h.h⟩
theorem SQ(hx:ev S x=some (.int k i))(hy:ev S y=some (.int k j))(hz:k.wrap (i*j)=z):YS P md w n D S ⟨dst,.binOp .mul t x y yt,ty,pos,af,g⟩ (.int k z):=⟨Vy hx hy hz⟩
theorem SR{e:TypeId}{m off:Nat}{l:Ti}{w0:World}{L:Tf}(hx:ev S x=some (.pointer (some ⟨m,off,none⟩)))[h:SC P t](hm:Mem w0 w No L)(hr:w0.heap[m]?=some (ag.row e l).Jd)(hv:nth l off=some v):YS P none w n D S ⟨dst,.load t x,ty,pos,af,g⟩ v:=⟨Jh hx h.h (fun u hu=>by cases hu; exact (hm.to.same _ (Lb.1 hr).1 id).trans hr) hv⟩
theorem SS{e:TypeId}{m off:Nat}{l:Ti}{w0 b':World}{L:Tf}(hx:ev S x=some (.pointer (some ⟨m,off,none⟩)))[h:SC P t](hm:Mem w0 b' No L)(hr:w0.heap[m]?=some (ag.row e l).Jd)(hv:nth l off=some v):YS P (some (b',No)) w n D S ⟨dst,.load t x,ty,pos,af,g⟩ v:=⟨Jh hx h.h (fun u hu=>((hm.to.trans hu).same _ (Lb.1 hr).1 id).trans hr) hv⟩
theorem J'{ad:Addr}(hx:ev S x=some (.pointer (some ad))):YS P md w n D S ⟨dst,.nilCheck x,ty,pos,af,g⟩ (.pointer (some ad)):=⟨oI hx⟩
theorem pG{vs:Array Value}{i:Nat}(hx:ev S x=some (.tuple vs))(hv:vs[i]?=some v):YS P md w n D S ⟨dst,.extract x i,ty,pos,af,g⟩ v:=⟨J7 hx hv⟩
theorem SU(hx:ev S x=some (.int k i))(hy:ev S y=some (.int k j))(hz:k.wrap (i+j)=z):YS P md w n D S ⟨dst,.binOp .add t x y yt,ty,pos,af,g⟩ (.int k z):=⟨J5 hx hy hz⟩
theorem SV(hx:ev S x=some (.int k i))(hy:ev S y=some (.int k j))(hz:k.wrap (i-j)=z):YS P md w n D S ⟨dst,.binOp .sub t x y yt,ty,pos,af,g⟩ (.int k z):=⟨QR hx hy hz⟩
theorem SX{p:Tg}{l c:Nat}{e:TypeId×Nat×Nat}(hx:ev S x=some (.slice p l c))[h:SL P t e]:YS P md w n D S ⟨dst,.call ⟨.builtin .len,#[x],#[t]⟩,ty,pos,af,g⟩ (.int .i64 l):=⟨gq hx rfl h.h⟩
theorem SY(hx:ev S x=some (.int k i))(hy:ev S y=some (.int k j)):YS P md w n D S ⟨dst,.binOp .eql t x y yt,ty,pos,af,g⟩ (.bool (decide (i=j))):=⟨V3 hx hy⟩
theorem SZ(hx:ev S x=some (.int k i))(hy:ev S y=some (.int k j)):YS P md w n D S ⟨dst,.binOp .neq t x y yt,ty,pos,af,g⟩ (.bool (decide (i≠j))):=⟨XD hx hy⟩
theorem S0(hx:ev S x=some (.int k i))(hy:ev S y=some (.int k j)):YS P md w n D S ⟨dst,.binOp .lss t x y yt,ty,pos,af,g⟩ (.bool (decide (i<j))):=⟨VO hx hy⟩
theorem S4(hx:ev S x=some (.int k i))(hy:ev S y=some (.int k j)):YS P md w n D S ⟨dst,.binOp .leq t x y yt,ty,pos,af,g⟩ (.bool (decide (i≤j))):=⟨Ry hx hy⟩
theorem S5(hx:ev S x=some (.int k i))(hy:ev S y=some (.int k j)):YS P md w n D S ⟨dst,.binOp .gtr t x y yt,ty,pos,af,g⟩ (.bool (decide (j<i))):=⟨XE hx hy⟩
theorem S6(hx:ev S x=some (.int k i))(hy:ev S y=some (.int k j)):YS P md w n D S ⟨dst,.binOp .geq t x y yt,ty,pos,af,g⟩ (.bool (decide (j≤i))):=⟨Rz hx hy⟩
theorem S7{ts:Array TypeId}(hx:ev S x=some (.int k i))(hy:ev S y=some (.int k j)):YS P md w n D S ⟨dst,.call ⟨.builtin .min,#[x,y],ts⟩,ty,pos,af,g⟩ (.int k (min i j)):=⟨RB hx hy⟩
theorem S9{ts:Array TypeId}(hx:ev S x=some (.int k i))(hy:ev S y=some (.int k j)):YS P md w n D S ⟨dst,.call ⟨.builtin .max,#[x,y],ts⟩,ty,pos,af,g⟩ (.int k (max i j)):=⟨IQ hx hy⟩
theorem Kl(hx:ev S x=some (.bool b)):YS P md w n D S ⟨dst,.unOp .not t x,ty,pos,af,g⟩ (.bool (!b)):=⟨kY hx⟩
theorem qX{ps:Array (Nat×Operand)}{xs:List Operand}{is:List Nat}{fs:List (Nat×Nat)}{vs cs z:Ti}[hz:ZE P t z][eD:FT P t fs](xo:ps.toList.map (·.2)=xs)(F7:ps.toList.map (·.1)=is)(hx:fL S xs=some vs)(aq:okB fs z.length (is.zip vs)=true)(ef:eP (fU fs z (is.zip vs)) 0 (fU fs z (is.zip vs)).length=some cs):YS P md w n D S ⟨dst,.build t ps,ty,pos,af,g⟩ (.agg ⟨cs⟩):=⟨Qe hz.h eD.h xo F7 hx aq ef⟩
theorem S'{c:Operand}(hc:ev S c=some (.bool b))(hx:ev S x=some (gv b true (.bool d)))(hy:ev S y=some (.bool false)):YS P md w n D S ⟨dst,.pick c x y,ty,pos,af,g⟩ (.bool (b&&d)):=⟨kU hc hx hy⟩
theorem jaG{c:Operand}(hc:ev S c=some (.bool b))(hx:ev S x=some (.bool true))(hy:ev S y=some (gv b false (.bool d))):YS P md w n D S ⟨dst,.pick c x y,ty,pos,af,g⟩ (.bool (b||d)):=⟨sh hc hx hy⟩
theorem jaH{c:Operand}(hc:ev S c=some (.bool true))(hx:ev S x=some v):YS P md w n D S ⟨dst,.pick c x y,ty,pos,af,g⟩ v:=⟨Gb hc hx⟩
theorem jaI{c:Operand}(hc:ev S c=some (.bool false))(hy:ev S y=some v):YS P md w n D S ⟨dst,.pick c x y,ty,pos,af,g⟩ v:=⟨Gc hc hy⟩
theorem jaJ{T e es bs b o:Nat}{p:Tg}{l c:Nat}(hx:ev S x=some (.slice p l c))(hy:ev S y=some (.int k j))[h:SL P T (e,es,bs)](hp:p=some ⟨b,o,none⟩)(h0:0≤j)(h1:j<l):YS P md w n D S ⟨dst,.indexAddr T x y,ty,pos,af,g⟩ (.pointer (some ⟨b,o+j.toNat*es,none⟩)):=⟨Qy hx hy h.h hp h0 h1⟩
theorem Na{f:Fn}{fi ca:Array Operand}{l1 l2:Ti}(h1:fL S fi.toList=some l1)(h2:fL S ca.toList=some l2):YS P md w n D S ⟨dst,.makeFunc f fi ca,ty,pos,af,g⟩ (.func f ⟨l1⟩ ⟨l2⟩):=⟨BE h1 h2⟩
end
def Ua(o:Oper):Bool:=match o.op with
  | .call ⟨.builtin .len,_,_⟩ | .call ⟨.builtin .cap,_,_⟩ | .call ⟨.builtin .min,_,_⟩ | .call ⟨.builtin .max,_,_⟩=>false
  | .alloc _ | .box _ _ | .store _ _ _ | .call _ | .defer _ | .buildSlice _ _ _ | .makeSlice _ _ _ | .makeMap _ _ | .mapUpdate _ _ _ _ | .next _ _ | .range _ _=>true
  | _=>false
def PL:List Oper→Nat→Tr
  | [],_=>.done
  | o::r,i=>bif Ua o then .act i (PL r (i+1)) else .pure i (PL r (i+1))
theorem C7:∀ (l:List Oper) (i:Nat),Qh (i+l.length) i (PL l i)=true
  | [],i=>by simp [PL,Qh]
  | o::r,i=>by
    have h:=C7 r (i+1)
    rw [show i+1+r.length=i+(o::r).length by simp only [Li]; omega] at h
    unfold PL
    rw [Li] at h ⊢
    cases Ua o <;> simpa [Qh] using h
def tl:List Nat→Tr
  | []=>.done
  | x::r=>bif x%3==2 then .cut (tl r) else bif x%3==1 then .act (x/3) (tl r) else .pure (x/3) (tl r)
def jaK(c:Code)(t:Tr):Bool:=match c with | .region _ o d=>d&&QI o&&QY o o.size (Array.replicate o.size false) t | _=>false
section
variable {K:Prop}{P:Program}{r:Option Nat}{k:Ks}{ops:Array Oper}{md:Md}{n m:Nat}{D:List Deferred}{S:Tk}{w:World}{i j d:Nat}{t:Tr}{c:Code}{o:Oper}{v:Value}{b cb:Bool}{dst:Option Tmp}{ty:TypeId}{pos:String}{af:Array Edge}{g:Option (Nat×Bool)}{w0:World}{X:Bs}{L:Tf}
theorem q_p{o':Oper}(ho:eL ops S i=some (o,d))(hd:Nat.blt d n=true)(he:o=o')(hy:YS P md w n D S o' v)(h:AU K m (HR P r k ops md n D ((d,v)::S) t w)):AU K (m+1) (HR P r k ops md n D S (.pure i t) w):=⟨fun z=>Ja ho hd (he▸hy.h) (h.h z)⟩
theorem q_g{gd:Nat}{o':Oper}(ho:BA ops i=some (o,d,gd,b))(hl:look S gd=some (.bool cb))(hd:Nat.blt d n=true)(he:o=o')(hy:cb=b→YS P md w n D S o' v)(h:AU K m (HR P r k ops md n D ((d,gv cb b v)::S) t w)):AU K (m+1) (HR P r k ops md n D S (.pure i t) w):=⟨fun z=>JK ho hl hd (fun e=>he▸(hy e).h) (h.h z)⟩
theorem jaL{gd:Nat}(ho:BA ops i=some (o,d,gd,b))(hl:look S gd=some (.bool cb))(hc:cb≠b)(hd:Nat.blt d n=true)(h:AU K m (HR P r k ops md n D ((d,undef)::S) t w)):AU K (m+1) (HR P r k ops md n D S (.pure i t) w):=⟨fun z=>Rx ho hl hc hd (h.h z)⟩
theorem Nb(h:AU K m (GN k n D S w)):AU K (m+1) (HR P r k ops md n D S .done w):=⟨fun z=>Qc (h.h z)⟩
theorem Ub(h:AU K m (HR P r k ops none n D S t w)):AU K (m+1) (HR P r k ops md n D S (.cut t) w):=⟨fun z=>RE (h.h z)⟩
theorem jaM(h:AU K m (HW P r c k n D S w)):AU K (m+1) (GN (k.sq P r c) n D S w):=⟨fun z=>QV (h.h z)⟩
theorem jaN(h:AU K m (GN k n D S w)):AU K (m+1) (GN (k.bl i) n D S w):=⟨fun z=>Rp (h.h z)⟩
theorem jaO(h:AU K m (GX k j n D S w)):AU K (m+1) (GX (k.sq P r c) j n D S w):=⟨fun z=>Ru (h.h z)⟩
theorem jaP(h:AU K m (GN k n D S w)):AU K (m+1) (GX (k.bl i) i n D S w):=⟨fun z=>F4 (h.h z)⟩
theorem jaQ(h:AU K m (GR k n D S w)):AU K (m+1) (GR (k.sq P r c) n D S w):=⟨fun z=>Rq (h.h z)⟩
theorem Uc(hc:xn c=true)(h:AU K m (GR k n D S w)):AU K (m+1) (HW P r c k n D S w):=⟨fun z=>iI hc (h.h z)⟩
theorem jaR(hc:FY c=some i)(h:AU K m (GX k i n D S w)):AU K (m+1) (HW P r c k n D S w):=⟨fun z=>F9 hc (h.h z)⟩
theorem jaS(hc:FW c=some i)(h:AU K m (HW P r (K4 c) (k.bl i) n D S w)):AU K (m+1) (HW P r c k n D S w):=⟨fun z=>XC hc (h.h z)⟩
theorem Ud(hc:kI c=true)(h:AU K m (HW P r (y7 c) (k.sq P r (y8 c)) n D S w)):AU K (m+1) (HW P r c k n D S w):=⟨fun z=>Qb hc (h.h z)⟩
theorem Nc(hc:qe c=true)(h:AU K m (GN k n D S w)):AU K (m+1) (HW P r c k n D S w):=⟨fun z=>j8 hc (h.h z)⟩
theorem jaT{x:Operand}(hc:r8 c=some x)(hb:ev S x=some (.bool b))(BG:b=true)(h:AU K m (HW P r (Bx c) k n D S w)):AU K (m+1) (HW P r c k n D S w):=⟨fun z=>BF hc hb BG (h.h z)⟩
theorem jaU{x:Operand}(hc:r8 c=some x)(hb:ev S x=some (.bool b))(PE:b=false)(h:AU K m (HW P r (By c) k n D S w)):AU K (m+1) (HW P r c k n D S w):=⟨fun z=>Ye hc hb PE (h.h z)⟩
theorem Nd{tr:Tr}(hc:(match c with | .region _ o d=>!d&&QI o | _=>false)=true)(ht:PL (qh c).toList 0=tr)(h:AU K m (HR P r k (qh c) none n D S tr w)):AU K (m+1) (HW P r c k n D S w):=⟨fun z=>by
  refine JT tr ?_ (h.h z)
  subst ht
  cases c <;> simp only [L0] at hc
  rename_i x o d
  have:=C7 o.toList 0
  simp only [LV,Array.length_toList] at this
  simp only [qh,this,hc,Bool.and_true]⟩
theorem jaV{ι:Type}{Sx:ι→Tk}{M:ι→World→Prop}{μ:ι→Nat}{x:ι}{m':Nat}{D':List Deferred}(h:AU K m (GX k i n D S w)):AU K (m+1) (GX (k.lp Sx M μ x m' D') i n D S w):=⟨fun z=>Rw (h.h z)⟩
theorem jaW{ι:Type}{Sx:ι→Tk}{M:ι→World→Prop}{μ:ι→Nat}{x:ι}{m':Nat}{D':List Deferred}(h:AU K m (GR k n D S w)):AU K (m+1) (GR (k.lp Sx M μ x m' D') n D S w):=⟨fun z=>Rv (h.h z)⟩
theorem jaX(h:AU K m (GR k n D S w)):AU K (m+1) (GR (k.bl i) n D S w):=⟨fun z=>Rr (h.h z)⟩
theorem Ue{gd:Nat}(ho:BA ops i=some (o,d,gd,b))(hl:look S gd=some (.bool cb))(hc:cb≠b)(hd:Nat.blt d n=true)(hh:aQ md w)(h:AU K m (HR P r k ops md n D ((d,undef)::S) t w)):AU K (m+1) (HR P r k ops md n D S (.act i t) w):=⟨fun z=>jad ho hl hc hd hh (h.h z)⟩
theorem jaY{fn:Func}{R:Value→World→Prop}{t:Tmp}(hk:∀ a w,Fin P fn R a w→k.ret a w)(hr:fn.results.toList=[.tmp t])(h:look S t=some v)(hR:AU K m (R v w)):AU K (m+1) (GR k n [] S w):=⟨fun z=>dD (fin hk hr (.tmp h .nil) .one (hR.h z))⟩
theorem jaZ{fn:Func}{R:Value→World→Prop}{t s:Tmp}{u:Value}(hk:∀ a w,Fin P fn R a w→k.ret a w)(hr:fn.results.toList=[.tmp t,.tmp s])(h:look S t=some v)(h2:look S s=some u)(hR:AU K m (R (.tuple ⟨[v,u]⟩) w)):AU K (m+1) (GR k n [] S w):=⟨fun z=>dD (fin hk hr (.tmp h (.tmp h2 .nil)) .more (hR.h z))⟩
theorem Nf{fn:Func}{R:Value→World→Prop}{t T p off sz e:Nat}{l vs:Ti}(hk:∀ a w,Fin P fn R a w→k.ret a w)(hr:fn.results.toList=[.cell t T])(h:look S t=some (.pointer (some ⟨p,off,none⟩)))(hm:Mem w0 w X L)(ha:At L p (.row e l))(hs:AG P T sz)(hv:eP l off sz=some vs)(hR:AU K m (R (.agg ⟨vs⟩) w)):AU K (m+1) (GR k n [] S w):=⟨fun z=>dD (fin hk hr (.cell h (Ju hs.h (hm.own _ ha.h rfl) hv) .nil) .one (hR.h z))⟩
theorem Ng{fn:Func}{R:Value→World→Prop}{t T p off sz e s:Nat}{l vs:Ti}(hk:∀ a w,Fin P fn R a w→k.ret a w)(hr:fn.results.toList=[.cell t T,.tmp s])(h:look S t=some (.pointer (some ⟨p,off,none⟩)))(hm:Mem w0 w X L)(ha:At L p (.row e l))(hs:AG P T sz)(hv:eP l off sz=some vs)(h2:look S s=some v)(hR:AU K m (R (.tuple ⟨[.agg ⟨vs⟩,v]⟩) w)):AU K (m+1) (GR k n [] S w):=⟨fun z=>dD (fin hk hr (.cell h (Ju hs.h (hm.own _ ha.h rfl) hv) (.tmp h2 .nil)) .more (hR.h z))⟩
theorem cA{a9:Array Operand}{ts:Array TypeId}{f:FuncId}{vs:Ti}(ho:eL ops S i=some (⟨dst,.call ⟨.value (.func f),a9,ts⟩,ty,pos,af,g⟩,d))(hd:Nat.blt d n=true)(ha:fL S a9.toList=some vs)(hc:C P f vs w fun u w'=>u=v∧Ext No w w')(hm:Mem w0 w X L)
    (h:∀ w',Mem w0 w' X L→HR P r k ops none n D ((d,v)::S) t w') (hg:JH P f=true:=by kernel_rfl):HR P r k ops none n D S (.act i t) w:=lh ho hd ha hg hc fun _ _ hR=>by
  obtain ⟨rfl,hE⟩:=hR
  exact ⟨trivial,h _ (hm.ext hE)⟩
theorem cB{a9:Array Operand}{ts:Array TypeId}{f:FuncId}{vs:Ti}(ho:eL ops S i=some (⟨dst,.call ⟨.value (.func f),a9,ts⟩,ty,pos,af,g⟩,d))(hd:Nat.blt d n=true)(ha:fL S a9.toList=some vs)(hc:C P f vs w fun u w'=>u=v∧Ext No w w')(hm:Mem w0 w X L)(hh:aQ md w)
    (h:∀ w',Mem w0 w' X L→aQ md w'→HR P r k ops md n D ((d,v)::S) t w') (hg:JH P f=true:=by kernel_rfl):HR P r k ops md n D S (.act i t) w:=lh ho hd ha hg hc fun _ _ hR=>by
  obtain ⟨rfl,hE⟩:=hR
  exact ⟨hh.ext hE,h _ (hm.ext hE) (hh.ext hE)⟩
theorem ca{a9:Array Operand}{ts:Array TypeId}{f:FuncId}{vs:Ti}{R:Value→World→Prop}(ho:eL ops S i=some (⟨dst,.call ⟨.value (.func f),a9,ts⟩,ty,pos,af,g⟩,d))(hd:Nat.blt d n=true)(ha:fL S a9.toList=some vs)(hc:C P f vs w R)
    (h:∀ v w',R v w'→aQ md w'∧HR P r k ops md n D ((d,v)::S) t w') (hg:JH P f=true:=by kernel_rfl):HR P r k ops md n D S (.act i t) w:=lh ho hd ha hg hc h
theorem cT{a9:Array Operand}{ts:Array TypeId}{f:FuncId}{vs:Ti}{R:Value→World→Prop}(ho:eL ops S i=some (⟨dst,.call ⟨.value (.func f),a9,ts⟩,ty,pos,af,g⟩,d))(hd:Nat.blt d n=true)(ha:fL S a9.toList=some vs)(hc:C P f vs w R)
    (h:∀ v w',R v w'→HR P r k ops none n D ((d,v)::S) t w') (hg:JH P f=true:=by kernel_rfl):HR P r k ops none n D S (.act i t) w:=lh ho hd ha hg hc fun v w' hR=>⟨trivial,h v w' hR⟩
theorem aT{e:TypeId}{l:Ti}(hm:Mem w0 w X L)(h:∀ m w',Mem w0 w' X ((m,.row e l)::L)→HR P r k ops none n D ((d,.pointer (some ⟨m,0,none⟩))::S) t w')
    (ho:eL ops S i=some (⟨dst,.alloc e,ty,pos,af,g⟩,d):=by rfl) (hd:Nat.blt d n=true:=by rfl) (hz:iF P e=some l:=by exact ZE.h):HR P r k ops none n D S (.act i t) w:=xq ho hd hz hm trivial fun m w' _ a _=>h m w' a
theorem bT{e:TypeId}{x:Operand}{l:Ti}(hm:Mem w0 w X L)(h:∀ m w',Mem w0 w' X ((m,.row e l)::L)→HR P r k ops none n D ((d,.pointer (some ⟨m,0,none⟩))::S) t w')
    (ho:eL ops S i=some (⟨dst,.box e x,ty,pos,af,g⟩,d):=by rfl) (hd:Nat.blt d n=true:=by rfl) (hx:ev S x=some v:=by rfl) (hl:v.cells=⟨l⟩:=by rfl):HR P r k ops none n D S (.act i t) w:=RC ho hd hx hl hm trivial fun m w' _ a _=>h m w' a
theorem st{T e:TypeId}{x y:Operand}{m off:Nat}{l vs:Ti}(hm:Mem w0 w X L)(j:Nat)(h:∀ w',Mem w0 w' X (Qr L j (.row e (aU l off vs)))→HR P r k ops none n D S t w')(ho:j7 ops S i=some ⟨dst,.store T x y,ty,pos,af,g⟩:=by rfl)(hx:ev S x=some (.pointer (some ⟨m,off,none⟩)):=by rfl)(hy:ev S y=some v:=by rfl)
    (hc:v.cells=⟨vs⟩:=by rfl) (h1:vs.all (·.oneCell')=true:=by rfl) (hk:aR L j=some (m,.row e l):=by rfl) (aX:Nat.ble (off+vs.length) l.length=true:=by rfl) (hs:gj P T=some vs.length:=by kernel_rfl):HR P r k ops none n D S (.act i t) w:=Vi ho hx hy hc hs h1 hm j hk aX h
theorem al{e:TypeId}{l:Ti}(hm:Mem w0 w X L)(hh:aQ md w)(h:∀ m w',Ft md m→Mem w0 w' X ((m,.row e l)::L)→aQ md w'→HR P r k ops md n D ((d,.pointer (some ⟨m,0,none⟩))::S) t w')
    (ho:eL ops S i=some (⟨dst,.alloc e,ty,pos,af,g⟩,d):=by rfl) (hd:Nat.blt d n=true:=by rfl) (hz:iF P e=some l:=by exact ZE.h):HR P r k ops md n D S (.act i t) w:=xq ho hd hz hm hh h
theorem cd{x:Operand}(ht:b=true→HW P r (Bx c) k n D S w)(hf:b=false→HW P r (By c) k n D S w)(hc:r8 c=some x:=by rfl)(hb:ev S x=some (.bool b):=by rfl):HW P r c k n D S w:=qn hc hb ht hf
theorem dw [cH k](l:List Nat){t:Tr}(hM:Mem w0 w X L)(h:∀ w',w'.heap=w.heap→Mem w0 w' X L→aQ (some (w',No)) w'→Mem w0 w' X L→HR P r k (qh c) (some (w',No)) n D S t w')(ht:tl l=t:=by conv=>lhs; reduce)(hf:P.follows .mixedOrders=true:=by kernel_rfl)
    (hc:jaK c t=true:=by kernel_rfl):HW P r c k n D S w:=JS t No hf hc hM fun w' a b e=>h w' a b e b
theorem f1{fn:Func}{R:Value→World→Prop}{t:Tmp}(hk:∀ a w,Fin P fn R a w→k.ret a w)(hR:R v w)(hr:fn.results.toList=[.tmp t]:=by rfl)(h:look S t=some v:=by rfl):GR k n [] S w:=dD (fin hk hr (.tmp h .nil) .one hR)
theorem f2{fn:Func}{R:Value→World→Prop}{t s:Tmp}{u:Value}(hk:∀ a w,Fin P fn R a w→k.ret a w)(hR:R (.tuple ⟨[v,u]⟩) w)(hr:fn.results.toList=[.tmp t,.tmp s]:=by rfl)(h:look S t=some v:=by rfl)(h2:look S s=some u:=by rfl):GR k n [] S w:=dD (fin hk hr (.tmp h (.tmp h2 .nil)) .more hR)
theorem aH{f:FuncId}{fn:Func}{vs:Ti}{R:Value→World→Prop}(hf:P.funcs[f]?=some fn)(h:∀ (k:Ks) [cH k],(∀ a w,Fin P fn R a w→k.ret a w)→(∀ a w,Fin P fn R a w→k.norm a w)→Mem w w No []→HW P none (XS fn) k n [] (eJ 0 vs) w)
    (hb:fn.body.isSome=true:=by rfl) (hn:fn.ntmps=n:=by rfl) (hl:Nat.ble vs.length n=true:=by rfl):C P f vs w R:=Vk hf hb hn hl fun k _ h1 h2=>h k h1 h2 (Mem.start w)
end
theorem au0{G:Prop}:AU G 0 G:=⟨id⟩
theorem au{G K:Prop}(n:Nat)(k:K)(h:AU K n G:=by
  repeat (first
    | with_reducible apply Ub
    | with_reducible apply Nb
    | (with_reducible apply q_p
       · rfl
       · rfl
       · conv=>lhs; whnf
       · first | (apply C2; rfl) | (apply C3; rfl) | (apply SP; rfl) | (apply C4; rfl; exact hm; infer_instance; rfl) | (apply C5; rfl; exact ar; infer_instance; rfl) | (apply J'; rfl) | (apply pG; rfl; rfl) | (apply SU; rfl; rfl; exact Ql Ta Ta) | (apply SX; rfl) | (apply S0; rfl; rfl) | (apply S5; rfl; rfl) | (apply S4; rfl; rfl) | (apply S6; rfl; rfl) | (apply SY; rfl; rfl) | (apply SZ; rfl; rfl) | (apply S7; rfl; rfl) | (apply S9; rfl; rfl) | (apply jaH; rfl; rfl) | (apply jaI; rfl; rfl) | (apply Kl; rfl) | (apply S'; rfl; rfl; rfl) | (apply jaG; rfl; rfl; rfl) | (apply (jD (s:=2) (vs:=[_,_])); rfl; exact hm; infer_instance; rfl) | (apply (jE (s:=2) (vs:=[_,_])); rfl; exact ar; infer_instance; rfl) | (apply (jD (s:=5) (vs:=[_,_,_,_,_])); rfl; exact hm; infer_instance; rfl) | (apply (jE (s:=5) (vs:=[_,_,_,_,_])); rfl; exact ar; infer_instance; rfl) | (apply (jD (s:=7) (vs:=[_,_,_,_,_,_,_])); rfl; exact hm; infer_instance; rfl) | (apply (jE (s:=7) (vs:=[_,_,_,_,_,_,_])); rfl; exact ar; infer_instance; rfl) | (apply (jD (s:=3) (vs:=[_,_,_])); rfl; exact hm; infer_instance; rfl) | (apply (jE (s:=3) (vs:=[_,_,_])); rfl; exact ar; infer_instance; rfl) | (apply jaJ; rfl; rfl; rfl; omega; omega) | (apply SV; rfl; rfl; exact Ql Ta Ta) | (apply (qX (cs:=[_,_])); rfl; rfl; rfl; rfl; rfl) | (apply (qX (cs:=[_,_,_,_,_])); rfl; rfl; rfl; rfl; rfl) | (apply (qX (cs:=[_,_,_,_,_,_,_])); rfl; rfl; rfl; rfl; rfl) | (apply Na; rfl; rfl) | (apply SR; rfl; exact hm; assumption; rfl) | (apply SS; rfl; exact ar; assumption; rfl) | (apply C6; rfl; rfl) | (apply SQ; rfl; rfl; exact Ql Ta Ta) | (apply C4; rfl; exact hm; (first | exact ⟨Js (k:=0) rfl⟩ | exact ⟨Js (k:=1) rfl⟩ | exact ⟨Js (k:=2) rfl⟩ | exact ⟨Js (k:=3) rfl⟩ | exact ⟨Js (k:=4) rfl⟩); rfl) | (apply C5; rfl; exact ar; (first | exact ⟨Js (k:=0) rfl⟩ | exact ⟨Js (k:=1) rfl⟩ | exact ⟨Js (k:=2) rfl⟩ | exact ⟨Js (k:=3) rfl⟩ | exact ⟨Js (k:=4) rfl⟩); rfl) | (apply (jD (s:=2) (vs:=[_,_])); rfl; exact hm; (first | exact ⟨Js (k:=0) rfl⟩ | exact ⟨Js (k:=1) rfl⟩ | exact ⟨Js (k:=2) rfl⟩ | exact ⟨Js (k:=3) rfl⟩ | exact ⟨Js (k:=4) rfl⟩); rfl) | (apply (jE (s:=2) (vs:=[_,_])); rfl; exact ar; (first | exact ⟨Js (k:=0) rfl⟩ | exact ⟨Js (k:=1) rfl⟩ | exact ⟨Js (k:=2) rfl⟩ | exact ⟨Js (k:=3) rfl⟩ | exact ⟨Js (k:=4) rfl⟩); rfl) | (apply (jD (s:=5) (vs:=[_,_,_,_,_])); rfl; exact hm; (first | exact ⟨Js (k:=0) rfl⟩ | exact ⟨Js (k:=1) rfl⟩ | exact ⟨Js (k:=2) rfl⟩ | exact ⟨Js (k:=3) rfl⟩ | exact ⟨Js (k:=4) rfl⟩); rfl) | (apply (jE (s:=5) (vs:=[_,_,_,_,_])); rfl; exact ar; (first | exact ⟨Js (k:=0) rfl⟩ | exact ⟨Js (k:=1) rfl⟩ | exact ⟨Js (k:=2) rfl⟩ | exact ⟨Js (k:=3) rfl⟩ | exact ⟨Js (k:=4) rfl⟩); rfl))
    | with_reducible apply jaM
    | (with_reducible apply Ud
       · rfl)
    | with_reducible apply jaN
    | with_reducible apply jaO
    | with_reducible apply jaQ
    | with_reducible apply jaV
    | with_reducible apply jaX
    | with_reducible apply jaW
    | (with_reducible apply Nc
       · rfl)
    | (with_reducible apply Uc
       · rfl)
    | (with_reducible apply jaS
       · rfl)
    | (with_reducible apply jaR
       · rfl)
    | (with_reducible apply jaU
       · rfl
       · rfl
       · rfl)
    | (with_reducible apply jaT
       · rfl
       · rfl
       · rfl)
    | with_reducible apply jaP
    | (with_reducible apply jaL
       · rfl
       · rfl
       · decide
       · rfl)
    | (with_reducible apply q_g
       · rfl
       · rfl
       · rfl
       · conv=>lhs; whnf
       · intro hc
         first | (apply C2; (first | exact gx hc rfl | rfl)) | (apply SP; (first | exact gx hc rfl | rfl)) | (apply C4; (first | exact gx hc rfl | rfl); exact hm; infer_instance; rfl) | (apply C5; (first | exact gx hc rfl | rfl); exact ar; infer_instance; rfl) | (apply J'; (first | exact gx hc rfl | rfl)) | (apply pG; (first | exact gx hc rfl | rfl); rfl) | (apply S0; (first | exact gx hc rfl | rfl); (first | exact gx hc rfl | rfl)) | (apply S5; (first | exact gx hc rfl | rfl); (first | exact gx hc rfl | rfl)) | (apply S4; (first | exact gx hc rfl | rfl); (first | exact gx hc rfl | rfl)) | (apply S6; (first | exact gx hc rfl | rfl); (first | exact gx hc rfl | rfl)) | (apply SY; (first | exact gx hc rfl | rfl); (first | exact gx hc rfl | rfl)) | (apply SZ; (first | exact gx hc rfl | rfl); (first | exact gx hc rfl | rfl)) | (apply (jD (s:=2) (vs:=[_,_])); (first | exact gx hc rfl | rfl); exact hm; infer_instance; rfl) | (apply (jE (s:=2) (vs:=[_,_])); (first | exact gx hc rfl | rfl); exact ar; infer_instance; rfl) | (apply (jD (s:=5) (vs:=[_,_,_,_,_])); (first | exact gx hc rfl | rfl); exact hm; infer_instance; rfl) | (apply (jE (s:=5) (vs:=[_,_,_,_,_])); (first | exact gx hc rfl | rfl); exact ar; infer_instance; rfl) | (apply Kl; (first | exact gx hc rfl | rfl)) | (apply C6; (first | exact gx hc rfl | rfl); rfl))
    | (with_reducible apply Ue
       · rfl
       · rfl
       · decide
       · rfl
       · first | exact hh | exact trivial)
    | (with_reducible apply jaY
       · exact Je
       · rfl
       · rfl)
    | (with_reducible apply jaZ
       · exact Je
       · rfl
       · rfl
       · rfl)
    | (with_reducible apply (Nf (vs:=[_,_]))
       · exact Je
       · rfl
       · rfl
       · exact hm
       · (first | infer_instance | exact ⟨Js (k:=0) rfl⟩ | exact ⟨Js (k:=1) rfl⟩ | exact ⟨Js (k:=2) rfl⟩ | exact ⟨Js (k:=3) rfl⟩ | exact ⟨Js (k:=4) rfl⟩)
       · infer_instance
       · rfl)
    | (with_reducible apply (Nf (vs:=[_,_,_,_,_]))
       · exact Je
       · rfl
       · rfl
       · exact hm
       · (first | infer_instance | exact ⟨Js (k:=0) rfl⟩ | exact ⟨Js (k:=1) rfl⟩ | exact ⟨Js (k:=2) rfl⟩ | exact ⟨Js (k:=3) rfl⟩ | exact ⟨Js (k:=4) rfl⟩)
       · infer_instance
       · rfl)
    | (with_reducible apply (Nf (vs:=[_,_,_,_,_,_,_]))
       · exact Je
       · rfl
       · rfl
       · exact hm
       · (first | infer_instance | exact ⟨Js (k:=0) rfl⟩ | exact ⟨Js (k:=1) rfl⟩ | exact ⟨Js (k:=2) rfl⟩ | exact ⟨Js (k:=3) rfl⟩ | exact ⟨Js (k:=4) rfl⟩)
       · infer_instance
       · rfl)
    | (with_reducible apply (Ng (vs:=[_,_]))
       · exact Je
       · rfl
       · rfl
       · exact hm
       · (first | infer_instance | exact ⟨Js (k:=0) rfl⟩ | exact ⟨Js (k:=1) rfl⟩ | exact ⟨Js (k:=2) rfl⟩ | exact ⟨Js (k:=3) rfl⟩ | exact ⟨Js (k:=4) rfl⟩)
       · infer_instance
       · rfl
       · rfl)
    | (with_reducible apply (Ng (vs:=[_,_,_,_,_]))
       · exact Je
       · rfl
       · rfl
       · exact hm
       · (first | infer_instance | exact ⟨Js (k:=0) rfl⟩ | exact ⟨Js (k:=1) rfl⟩ | exact ⟨Js (k:=2) rfl⟩ | exact ⟨Js (k:=3) rfl⟩ | exact ⟨Js (k:=4) rfl⟩)
       · infer_instance
       · rfl
       · rfl)
    | (with_reducible apply (Ng (vs:=[_,_,_,_,_,_,_]))
       · exact Je
       · rfl
       · rfl
       · exact hm
       · (first | infer_instance | exact ⟨Js (k:=0) rfl⟩ | exact ⟨Js (k:=1) rfl⟩ | exact ⟨Js (k:=2) rfl⟩ | exact ⟨Js (k:=3) rfl⟩ | exact ⟨Js (k:=4) rfl⟩)
       · infer_instance
       · rfl
       · rfl)
    | (with_reducible apply Nd
       · kernel_rfl
       · conv=>lhs; reduce))
  exact au0):G:=h.h k
end Go.Cx
namespace Go.Proofs.YtaehgpeenaomcaaGreat
open Go Go.Cx
instance fo32_0:FO Tryz.prog 32 0 (0):=⟨Te⟩
instance:FO Tryz.prog 32 1 (1):=⟨Te⟩
instance sc3:SC Tryz.prog 3:=⟨Te⟩
theorem go53:JH Tryz.prog 53=true:=by kernel_rfl
theorem fP:Tryz.prog.follows .mixedOrders=true:=by kernel_rfl
instance ag32:AG Tryz.prog 32 (2):=⟨Te⟩
instance ft32:FT Tryz.prog 32 [(0,1),(1,1)]:=⟨Te⟩
theorem sz32:gj Tryz.prog 32=some 2:=by kernel_rfl
instance z32:ZE Tryz.prog 32 [.int .i64 0,.int .i64 0]:=⟨Te⟩
theorem go36:JH Tryz.prog 36=true:=by kernel_rfl
instance sl240:SL Tryz.prog 240 (32,2,16):=⟨Te⟩
theorem go251:JH Tryz.prog 251=true:=by kernel_rfl
theorem go312:JH Tryz.prog 312=true:=by kernel_rfl
theorem sz3:gj Tryz.prog 3=some 1:=by kernel_rfl
theorem go304:JH Tryz.prog 304=true:=by kernel_rfl
instance sc240:SC Tryz.prog 240:=⟨Te⟩
instance:ZE Tryz.prog 240 [.slice none 0 0]:=⟨Te⟩
theorem sb22:BV Tryz.prog 22=true:=by kernel_rfl
instance sl22:SL Tryz.prog 22 (5,1,1):=⟨Te⟩
instance z5:ZE Tryz.prog 5 [.int .u8 0]:=⟨Te⟩
instance sc5:SC Tryz.prog 5:=⟨Te⟩
theorem bt22_9:lD Tryz.prog 22 9=true:=by kernel_rfl
theorem it3:kS Tryz.prog 3=some .i64:=by kernel_rfl
instance:AG Tryz.prog 232 (2):=⟨Te⟩
instance:FO Tryz.prog 60 0 (0):=⟨Te⟩
instance:FO Tryz.prog 60 1 (1):=⟨Te⟩
instance fo60_3:FO Tryz.prog 60 3 (3):=⟨Te⟩
instance fo60_4:FO Tryz.prog 60 4 (4):=⟨Te⟩
instance:FT Tryz.prog 232 [(0,2)]:=⟨Te⟩
instance sc22:SC Tryz.prog 22:=⟨Te⟩
instance:ZE Tryz.prog 232 [.int .i64 0,.int .i64 0]:=⟨Te⟩
instance ag60:AG Tryz.prog 60 (5):=⟨Te⟩
theorem fv232_0:vI Tryz.prog 232 0=some (0,2,true):=by kernel_rfl
instance fo60_2:FO Tryz.prog 60 2 (2):=⟨Te⟩
instance:FT Tryz.prog 60 [(0,1),(1,1),(2,1),(3,1),(4,1)]:=⟨Te⟩
theorem sz60:gj Tryz.prog 60=some 5:=by kernel_rfl
instance z60:ZE Tryz.prog 60 [.int .i64 0,.int .i64 0,.int .i64 0,.int .i64 0,.slice none 0 0]:=⟨Te⟩
instance:FO Tryz.prog 232 0 (0):=⟨Te⟩
theorem go34:JH Tryz.prog 34=true:=by kernel_rfl
theorem go32:JH Tryz.prog 32=true:=by kernel_rfl
theorem go88:JH Tryz.prog 88=true:=by kernel_rfl
instance sl88:SL Tryz.prog 88 (22,1,24):=⟨Te⟩
instance:FO Tryz.prog 383 0 (0):=⟨Te⟩
instance:FT Tryz.prog 383 [(0,2),(2,5)]:=⟨Te⟩
instance z22:ZE Tryz.prog 22 [.slice none 0 0]:=⟨Te⟩
instance:ZE Tryz.prog 383 [.int .i64 0,.int .i64 0,.int .i64 0,.int .i64 0,.int .i64 0,.int .i64 0,.slice none 0 0]:=⟨Te⟩
instance ag34:AG Tryz.prog 34 (7):=⟨Te⟩
instance:FO Tryz.prog 34 2 (2):=⟨Te⟩
instance:FO Tryz.prog 34 3 (4):=⟨Te⟩
instance:FO Tryz.prog 34 4 (6):=⟨Te⟩
instance:FT Tryz.prog 34 [(0,1),(1,1),(2,2),(4,2),(6,1)]:=⟨Te⟩
theorem fv32_1:vI Tryz.prog 32 1=some (1,1,false):=by kernel_rfl
instance:ZE Tryz.prog 34 [.int .i64 0,.int .i64 0,.int .i64 0,.int .i64 0,.int .i64 0,.int .i64 0,.int .i64 0]:=⟨Te⟩
instance fo26_0:FO Tryz.prog 26 0 (0):=⟨Te⟩
instance:FO Tryz.prog 26 1 (1):=⟨Te⟩
instance sl134:SL Tryz.prog 134 (3,1,8):=⟨Te⟩
instance:FO Tryz.prog 104 0 (0):=⟨Te⟩
instance:FO Tryz.prog 104 1 (1):=⟨Te⟩
instance:FO Tryz.prog 112 0 (0):=⟨Te⟩
instance pb67:PB Tryz.prog 67:=⟨Te⟩
theorem go105:JH Tryz.prog 105=true:=by kernel_rfl
instance:FO Tryz.prog 112 5 (11):=⟨Te⟩
instance sc4:SC Tryz.prog 4:=⟨Te⟩
instance ag108:AG Tryz.prog 108 (5):=⟨Te⟩
instance:FO Tryz.prog 112 2 (4):=⟨Te⟩
instance:ZE Tryz.prog 108 [.int .i64 0,.int .i64 0,.int .i64 0,.int .i64 0,.int .i64 0]:=⟨Te⟩
instance:FT Tryz.prog 108 [(0,1),(1,1),(2,1),(3,1),(4,1)]:=⟨Te⟩
instance:FO Tryz.prog 112 3 (9):=⟨Te⟩
instance:FO Tryz.prog 112 4 (10):=⟨Te⟩
instance:FO Tryz.prog 258 1 (1):=⟨Te⟩
theorem mi110:gF Tryz.prog 110=true:=by kernel_rfl
instance sc109:SC Tryz.prog 109:=⟨Te⟩
instance:SC Tryz.prog 110:=⟨Te⟩
instance sl109:SL Tryz.prog 109 (258,2,32):=⟨Te⟩
instance ag258:AG Tryz.prog 258 (2):=⟨Te⟩
instance:FO Tryz.prog 258 0 (0):=⟨Te⟩
instance z258:ZE Tryz.prog 258 [.int .i64 0,.slice none 0 0]:=⟨Te⟩
instance:FO Tryz.prog 106 1 (1):=⟨Te⟩
instance:FO Tryz.prog 112 1 (2):=⟨Te⟩
instance sc55:SC Tryz.prog 55:=⟨Te⟩
instance sc67:SC Tryz.prog 67:=⟨Te⟩
instance:FO Tryz.prog 108 1 (1):=⟨Te⟩
instance:FT Tryz.prog 106 [(0,1),(1,1)]:=⟨Te⟩
instance:ZE Tryz.prog 106 [.int .i64 0,.int .u64 0]:=⟨Te⟩
instance:FO Tryz.prog 106 0 (0):=⟨Te⟩
theorem sz4:gj Tryz.prog 4=some 1:=by kernel_rfl
instance:FT Tryz.prog 104 [(0,1),(1,1)]:=⟨Te⟩
instance ft112:FT Tryz.prog 112 [(0,2),(2,2),(4,5),(9,1),(10,1),(11,1)]:=⟨Te⟩
instance:ZE Tryz.prog 104 [.int .i64 0,.slice none 0 0]:=⟨Te⟩
instance z112:ZE Tryz.prog 112 [.int .i64 0,.slice none 0 0,.int .i64 0,.int .u64 0,.int .i64 0,.int .i64 0,.int .i64 0,.int .i64 0,.int .i64 0,.slice none 0 0,.map none,.bool false]:=⟨Te⟩
instance:FO Tryz.prog 108 0 (0):=⟨Te⟩
instance:FO Tryz.prog 108 2 (2):=⟨Te⟩
instance:FO Tryz.prog 108 3 (3):=⟨Te⟩
instance:FO Tryz.prog 108 4 (4):=⟨Te⟩
instance:FT Tryz.prog 258 [(0,1),(1,1)]:=⟨Te⟩
instance:FO Tryz.prog 265 0 (0):=⟨Te⟩
instance:FO Tryz.prog 265 1 (1):=⟨Te⟩
instance:FO Tryz.prog 327 2 (2):=⟨Te⟩
instance:FO Tryz.prog 46 0 (0):=⟨Te⟩
instance:FT Tryz.prog 46 [(0,1),(1,1)]:=⟨Te⟩
instance sc35:SC Tryz.prog 35:=⟨Te⟩
instance z46:ZE Tryz.prog 46 [.int .i64 0,.int .i64 0]:=⟨Te⟩
instance:FO Tryz.prog 327 0 (0):=⟨Te⟩
instance:FO Tryz.prog 327 1 (1):=⟨Te⟩
theorem is5:(Tryz.prog.underlying 5).isSome=true:=by kernel_rfl
theorem it55:kS Tryz.prog 55=some .u64:=by kernel_rfl
instance z55:ZE Tryz.prog 55 [.int .u64 0]:=⟨Te⟩
instance:FO Tryz.prog 329 0 (0):=⟨Te⟩
instance:PB Tryz.prog 280:=⟨Te⟩
theorem go259:JH Tryz.prog 259=true:=by kernel_rfl
instance ag265:AG Tryz.prog 265 (2):=⟨Te⟩
theorem is55:(Tryz.prog.underlying 55).isSome=true:=by kernel_rfl
theorem it5:kS Tryz.prog 5=some .u8:=by kernel_rfl
instance sl267:SL Tryz.prog 267 (265,2,16):=⟨Te⟩
instance z265:ZE Tryz.prog 265 [.int .u64 0,.int .i64 0]:=⟨Te⟩
theorem go80:JH Tryz.prog 80=true:=by kernel_rfl
instance ag46:AG Tryz.prog 46 (2):=⟨Te⟩
instance ft327:FT Tryz.prog 327 [(0,1),(1,1),(2,2)]:=⟨Te⟩
instance ft329:FT Tryz.prog 329 [(0,4)]:=⟨Te⟩
instance z327:ZE Tryz.prog 327 [.slice none 0 0,.int .i64 0,.int .i64 0,.int .i64 0]:=⟨Te⟩
instance z329:ZE Tryz.prog 329 [.slice none 0 0,.int .i64 0,.int .i64 0,.int .i64 0]:=⟨Te⟩
instance ag186:AG Tryz.prog 186 (16):=⟨Te⟩
theorem ar186:qj Tryz.prog 186=some (16,120,1):=by kernel_rfl
theorem is3:(Tryz.prog.underlying 3).isSome=true:=by kernel_rfl
theorem it120:kS Tryz.prog 120=some .u32:=by kernel_rfl
instance:ZE Tryz.prog 186 [.int .u32 0,.int .u32 0,.int .u32 0,.int .u32 0,.int .u32 0,.int .u32 0,.int .u32 0,.int .u32 0,.int .u32 0,.int .u32 0,.int .u32 0,.int .u32 0,.int .u32 0,.int .u32 0,.int .u32 0,.int .u32 0]:=⟨Te⟩
theorem sz120:gj Tryz.prog 120=some 1:=by kernel_rfl
instance sc120:SC Tryz.prog 120:=⟨Te⟩
theorem go281:JH Tryz.prog 281=true:=by kernel_rfl
theorem is120:(Tryz.prog.underlying 120).isSome=true:=by kernel_rfl
theorem it151:kS Tryz.prog 151=some .u64:=by kernel_rfl
instance ag187:AG Tryz.prog 187 (64):=⟨Te⟩
instance ft187:FT Tryz.prog 187 [(0,1),(1,1),(2,1),(3,1),(4,1),(5,1),(6,1),(7,1),(8,1),(9,1),(10,1),(11,1),(12,1),(13,1),(14,1),(15,1),(16,1),(17,1),(18,1),(19,1),(20,1),(21,1),(22,1),(23,1),(24,1),(25,1),(26,1),(27,1),(28,1),(29,1),(30,1),(31,1),(32,1),(33,1),(34,1),(35,1),(36,1),(37,1),(38,1),(39,1),(40,1),(41,1),(42,1),(43,1),(44,1),(45,1),(46,1),(47,1),(48,1),(49,1),(50,1),(51,1),(52,1),(53,1),(54,1),(55,1),(56,1),(57,1),(58,1),(59,1),(60,1),(61,1),(62,1),(63,1)]:=⟨Te⟩
instance z187:ZE Tryz.prog 187 [.int .u32 0,.int .u32 0,.int .u32 0,.int .u32 0,.int .u32 0,.int .u32 0,.int .u32 0,.int .u32 0,.int .u32 0,.int .u32 0,.int .u32 0,.int .u32 0,.int .u32 0,.int .u32 0,.int .u32 0,.int .u32 0,.int .u32 0,.int .u32 0,.int .u32 0,.int .u32 0,.int .u32 0,.int .u32 0,.int .u32 0,.int .u32 0,.int .u32 0,.int .u32 0,.int .u32 0,.int .u32 0,.int .u32 0,.int .u32 0,.int .u32 0,.int .u32 0,.int .u32 0,.int .u32 0,.int .u32 0,.int .u32 0,.int .u32 0,.int .u32 0,.int .u32 0,.int .u32 0,.int .u32 0,.int .u32 0,.int .u32 0,.int .u32 0,.int .u32 0,.int .u32 0,.int .u32 0,.int .u32 0,.int .u32 0,.int .u32 0,.int .u32 0,.int .u32 0,.int .u32 0,.int .u32 0,.int .u32 0,.int .u32 0,.int .u32 0,.int .u32 0,.int .u32 0,.int .u32 0,.int .u32 0,.int .u32 0,.int .u32 0,.int .u32 0]:=⟨Te⟩
instance ag121:AG Tryz.prog 121 (8):=⟨Te⟩
theorem ar121:qj Tryz.prog 121=some (8,120,1):=by kernel_rfl
theorem ar187:qj Tryz.prog 187=some (64,120,1):=by kernel_rfl
instance:FO Tryz.prog 123 0 (0):=⟨Te⟩
instance sl190:SL Tryz.prog 190 (120,1,4):=⟨Te⟩
instance z121:ZE Tryz.prog 121 [.int .u32 0,.int .u32 0,.int .u32 0,.int .u32 0,.int .u32 0,.int .u32 0,.int .u32 0,.int .u32 0]:=⟨Te⟩
instance:FO Tryz.prog 123 1 (8):=⟨Te⟩
instance:FO Tryz.prog 123 2 (9):=⟨Te⟩
instance ag123:AG Tryz.prog 123 (10):=⟨Te⟩
instance ft121:FT Tryz.prog 121 [(0,1),(1,1),(2,1),(3,1),(4,1),(5,1),(6,1),(7,1)]:=⟨Te⟩
instance ft123:FT Tryz.prog 123 [(0,8),(8,1),(9,1)]:=⟨Te⟩
instance z123:ZE Tryz.prog 123 [.int .u32 0,.int .u32 0,.int .u32 0,.int .u32 0,.int .u32 0,.int .u32 0,.int .u32 0,.int .u32 0,.slice none 0 0,.int .i64 0]:=⟨Te⟩
instance ag23:AG Tryz.prog 23 (32):=⟨Te⟩
theorem ar23:qj Tryz.prog 23=some (32,5,1):=by kernel_rfl
theorem sz23:gj Tryz.prog 23=some 32:=by kernel_rfl
instance:ZE Tryz.prog 23 [.int .u8 0,.int .u8 0,.int .u8 0,.int .u8 0,.int .u8 0,.int .u8 0,.int .u8 0,.int .u8 0,.int .u8 0,.int .u8 0,.int .u8 0,.int .u8 0,.int .u8 0,.int .u8 0,.int .u8 0,.int .u8 0,.int .u8 0,.int .u8 0,.int .u8 0,.int .u8 0,.int .u8 0,.int .u8 0,.int .u8 0,.int .u8 0,.int .u8 0,.int .u8 0,.int .u8 0,.int .u8 0,.int .u8 0,.int .u8 0,.int .u8 0,.int .u8 0]:=⟨Te⟩
theorem sz5:gj Tryz.prog 5=some 1:=by kernel_rfl
instance ft126:FT Tryz.prog 126 [(0,10)]:=⟨Te⟩
instance z126:ZE Tryz.prog 126 [.int .u32 0,.int .u32 0,.int .u32 0,.int .u32 0,.int .u32 0,.int .u32 0,.int .u32 0,.int .u32 0,.slice none 0 0,.int .i64 0]:=⟨Te⟩
instance:FO Tryz.prog 126 0 (0):=⟨Te⟩
instance:PB Tryz.prog 89:=⟨Te⟩
instance:FT Tryz.prog 23 [(0,1),(1,1),(2,1),(3,1),(4,1),(5,1),(6,1),(7,1),(8,1),(9,1),(10,1),(11,1),(12,1),(13,1),(14,1),(15,1),(16,1),(17,1),(18,1),(19,1),(20,1),(21,1),(22,1),(23,1),(24,1),(25,1),(26,1),(27,1),(28,1),(29,1),(30,1),(31,1)]:=⟨Te⟩
instance z3:ZE Tryz.prog 3 [.int .i64 0]:=⟨Te⟩
instance z4:ZE Tryz.prog 4 [.bool false]:=⟨Te⟩
theorem go283:JH Tryz.prog 283=true:=by kernel_rfl
theorem is151:(Tryz.prog.underlying 151).isSome=true:=by kernel_rfl
instance:FO Tryz.prog 284 1 (1):=⟨Te⟩
instance sc134:SC Tryz.prog 134:=⟨Te⟩
theorem go260:JH Tryz.prog 260=true:=by kernel_rfl
instance ag284:AG Tryz.prog 284 (3):=⟨Te⟩
instance:FO Tryz.prog 286 0 (0):=⟨Te⟩
instance:PB Tryz.prog 180:=⟨Te⟩
instance:AG Tryz.prog 289 (7):=⟨Te⟩
instance:FO Tryz.prog 284 0 (0):=⟨Te⟩
instance:FO Tryz.prog 286 1 (3):=⟨Te⟩
instance:FT Tryz.prog 289 [(0,1),(1,1),(2,5)]:=⟨Te⟩
instance sc24:SC Tryz.prog 24:=⟨Te⟩
instance sl24:SL Tryz.prog 24 (60,5,56):=⟨Te⟩
theorem sz289:gj Tryz.prog 289=some 7:=by kernel_rfl
instance:ZE Tryz.prog 289 [.int .i64 0,.int .i64 0,.int .i64 0,.int .i64 0,.int .i64 0,.int .i64 0,.slice none 0 0]:=⟨Te⟩
instance:FO Tryz.prog 284 2 (2):=⟨Te⟩
instance ft284:FT Tryz.prog 284 [(0,1),(1,1),(2,1)]:=⟨Te⟩
instance ft286:FT Tryz.prog 286 [(0,3),(3,1)]:=⟨Te⟩
instance z284:ZE Tryz.prog 284 [.int .i64 0,.slice none 0 0,.slice none 0 0]:=⟨Te⟩
instance z286:ZE Tryz.prog 286 [.int .i64 0,.slice none 0 0,.slice none 0 0,.slice none 0 0]:=⟨Te⟩
theorem go9:JH Tryz.prog 9=true:=by kernel_rfl
theorem go253:JH Tryz.prog 253=true:=by kernel_rfl
instance:ZE Tryz.prog 35 [.int .i64 0]:=⟨Te⟩
theorem cb22:zA Tryz.prog 22=true:=by kernel_rfl
instance:FO Tryz.prog 225 0 (0):=⟨Te⟩
instance:FO Tryz.prog 225 1 (1):=⟨Te⟩
instance:FO Tryz.prog 225 2 (2):=⟨Te⟩
instance:FO Tryz.prog 225 3 (3):=⟨Te⟩
instance:FO Tryz.prog 225 4 (4):=⟨Te⟩
instance:FT Tryz.prog 265 [(0,1),(1,1)]:=⟨Te⟩
instance ag225:AG Tryz.prog 225 (5):=⟨Te⟩
instance:FT Tryz.prog 225 [(0,1),(1,1),(2,1),(3,1),(4,1)]:=⟨Te⟩
theorem iii46:lA Tryz.prog 46=true:=by kernel_rfl
theorem sz225:gj Tryz.prog 225=some 5:=by kernel_rfl
instance z225:ZE Tryz.prog 225 [.int .u64 0,.int .u64 0,.int .i64 0,.int .i64 0,.slice none 0 0]:=⟨Te⟩
theorem go332:JH Tryz.prog 332=true:=by kernel_rfl
instance sl273:SL Tryz.prog 273 (225,5,56):=⟨Te⟩
theorem sb273:BV Tryz.prog 273=true:=by kernel_rfl
theorem go227:JH Tryz.prog 227=true:=by kernel_rfl
instance:FO Tryz.prog 269 0 (0):=⟨Te⟩
instance:FO Tryz.prog 269 2 (2):=⟨Te⟩
instance ag269:AG Tryz.prog 269 (3):=⟨Te⟩
instance:FO Tryz.prog 269 1 (1):=⟨Te⟩
instance fo271_0:FO Tryz.prog 271 0 (0):=⟨Te⟩
instance sc181:SC Tryz.prog 181:=⟨Te⟩
instance sc273:SC Tryz.prog 273:=⟨Te⟩
instance:FO Tryz.prog 271 2 (4):=⟨Te⟩
instance:FO Tryz.prog 271 3 (5):=⟨Te⟩
instance:FO Tryz.prog 271 4 (10):=⟨Te⟩
instance ft269:FT Tryz.prog 269 [(0,1),(1,1),(2,1)]:=⟨Te⟩
instance ft271:FT Tryz.prog 271 [(0,3),(3,1),(4,1),(5,5),(10,1)]:=⟨Te⟩
instance:ZE Tryz.prog 181 [.pointer none]:=⟨Te⟩
instance z269:ZE Tryz.prog 269 [.pointer none,.int .i64 0,.int .i64 0]:=⟨Te⟩
instance z271:ZE Tryz.prog 271 [.pointer none,.int .i64 0,.int .i64 0,.int .u64 0,.int .u64 0,.int .u64 0,.int .u64 0,.int .i64 0,.int .i64 0,.slice none 0 0,.bool false]:=⟨Te⟩
instance:ZE Tryz.prog 273 [.slice none 0 0]:=⟨Te⟩
theorem go176:JH Tryz.prog 176=true:=by kernel_rfl
instance:FO Tryz.prog 271 1 (3):=⟨Te⟩
theorem fv32_0:vI Tryz.prog 32 0=some (0,1,false):=by kernel_rfl
instance:PB Tryz.prog 181:=⟨Te⟩
instance:FO Tryz.prog 34 0 (0):=⟨Te⟩
theorem fl34:flat Tryz.prog 34 [.num .i64,.num .i64,.num .i64,.num .i64,.num .i64,.num .i64,.num .i64]=true:=by kernel_rfl
theorem go47:JH Tryz.prog 47=true:=by kernel_rfl
instance fo26_4:FO Tryz.prog 26 4 (66):=⟨Te⟩
instance ag26:AG Tryz.prog 26 (67):=⟨Te⟩
theorem go19:JH Tryz.prog 19=true:=by kernel_rfl
theorem go30:JH Tryz.prog 30=true:=by kernel_rfl
theorem go31:JH Tryz.prog 31=true:=by kernel_rfl
theorem go33:JH Tryz.prog 33=true:=by kernel_rfl
instance:FO Tryz.prog 28 0 (0):=⟨Te⟩
instance:FO Tryz.prog 28 1 (1):=⟨Te⟩
instance:FO Tryz.prog 28 2 (68):=⟨Te⟩
instance:FO Tryz.prog 28 3 (69):=⟨Te⟩
instance:FO Tryz.prog 28 4 (70):=⟨Te⟩
theorem go15:JH Tryz.prog 15=true:=by kernel_rfl
theorem go16:JH Tryz.prog 16=true:=by kernel_rfl
theorem sz26:gj Tryz.prog 26=some 67:=by kernel_rfl
instance z26:ZE Tryz.prog 26 [.int .i64 0,.int .i64 0,.int .u8 0,.int .u8 0,.int .u8 0,.int .u8 0,.int .u8 0,.int .u8 0,.int .u8 0,.int .u8 0,.int .u8 0,.int .u8 0,.int .u8 0,.int .u8 0,.int .u8 0,.int .u8 0,.int .u8 0,.int .u8 0,.int .u8 0,.int .u8 0,.int .u8 0,.int .u8 0,.int .u8 0,.int .u8 0,.int .u8 0,.int .u8 0,.int .u8 0,.int .u8 0,.int .u8 0,.int .u8 0,.int .u8 0,.int .u8 0,.int .u8 0,.int .u8 0,.int .u8 0,.int .u8 0,.int .u8 0,.int .u8 0,.int .u8 0,.int .u8 0,.int .u8 0,.int .u8 0,.int .u8 0,.int .u8 0,.int .u8 0,.int .u8 0,.int .u8 0,.int .u8 0,.int .u8 0,.int .u8 0,.int .u8 0,.int .u8 0,.int .u8 0,.int .u8 0,.int .u8 0,.int .u8 0,.int .u8 0,.int .u8 0,.int .u8 0,.int .u8 0,.int .u8 0,.int .u8 0,.int .u8 0,.int .u8 0,.int .u8 0,.int .u8 0,.slice none 0 0]:=⟨Te⟩
instance:ZE Tryz.prog 134 [.slice none 0 0]:=⟨Te⟩
theorem go121:JH Tryz.prog 121=true:=by kernel_rfl
theorem go122:JH Tryz.prog 122=true:=by kernel_rfl
instance:ZE Tryz.prog 24 [.slice none 0 0]:=⟨Te⟩
instance ft26:FT Tryz.prog 26 [(0,1),(1,1),(2,32),(34,32),(66,1)]:=⟨Te⟩
theorem fl23:flat Tryz.prog 23 [.num .u8,.num .u8,.num .u8,.num .u8,.num .u8,.num .u8,.num .u8,.num .u8,.num .u8,.num .u8,.num .u8,.num .u8,.num .u8,.num .u8,.num .u8,.num .u8,.num .u8,.num .u8,.num .u8,.num .u8,.num .u8,.num .u8,.num .u8,.num .u8,.num .u8,.num .u8,.num .u8,.num .u8,.num .u8,.num .u8,.num .u8,.num .u8]=true:=by kernel_rfl
instance:FO Tryz.prog 26 2 (2):=⟨Te⟩
instance:FO Tryz.prog 26 3 (34):=⟨Te⟩
theorem fv26_4:vI Tryz.prog 26 4=some (66,1,false):=by kernel_rfl
theorem go252:JH Tryz.prog 252=true:=by kernel_rfl
theorem go250:JH Tryz.prog 250=true:=by kernel_rfl
instance:FO Tryz.prog 297 0 (0):=⟨Te⟩
instance:PB Tryz.prog 196:=⟨Te⟩
instance sc295:SC Tryz.prog 295:=⟨Te⟩
instance sl295:SL Tryz.prog 295 (299,3,24):=⟨Te⟩
instance:FO Tryz.prog 299 0 (0):=⟨Te⟩
instance sc196:SC Tryz.prog 196:=⟨Te⟩
theorem go242:JH Tryz.prog 242=true:=by kernel_rfl
instance:FO Tryz.prog 299 1 (2):=⟨Te⟩
theorem go196:JH Tryz.prog 196=true:=by kernel_rfl
instance ft297:FT Tryz.prog 297 [(0,1)]:=⟨Te⟩
instance ft299:FT Tryz.prog 299 [(0,2),(2,1)]:=⟨Te⟩
instance z297:ZE Tryz.prog 297 [.slice none 0 0]:=⟨Te⟩
instance z299:ZE Tryz.prog 299 [.int .i64 0,.int .i64 0,.int .i64 0]:=⟨Te⟩
instance ft239:FT Tryz.prog 239 [(0,1),(1,1),(2,1),(3,1)]:=⟨Te⟩
instance z239:ZE Tryz.prog 239 [.int .i64 0,.map none,.map none,.map none]:=⟨Te⟩
instance:FO Tryz.prog 239 0 (0):=⟨Te⟩
instance:PB Tryz.prog 131:=⟨Te⟩
theorem go160:JH Tryz.prog 160=true:=by kernel_rfl
instance:FO Tryz.prog 239 2 (2):=⟨Te⟩
instance sc237:SC Tryz.prog 237:=⟨Te⟩
theorem go248:JH Tryz.prog 248=true:=by kernel_rfl
instance:FO Tryz.prog 239 3 (3):=⟨Te⟩
instance ag201:AG Tryz.prog 201 (2):=⟨Te⟩
instance fo201_0:FO Tryz.prog 201 0 (0):=⟨Te⟩
instance fo201_1:FO Tryz.prog 201 1 (1):=⟨Te⟩
instance fo239_1:FO Tryz.prog 239 1 (1):=⟨Te⟩
theorem go157:JH Tryz.prog 157=true:=by kernel_rfl
instance sc236:SC Tryz.prog 236:=⟨Te⟩
instance sl243:SL Tryz.prog 243 (201,2,16):=⟨Te⟩
instance z201:ZE Tryz.prog 201 [.int .i64 0,.int .i64 0]:=⟨Te⟩
theorem sb134:BV Tryz.prog 134=true:=by kernel_rfl
instance sc362:SC Tryz.prog 362:=⟨Te⟩
theorem un362:Tryz.prog.underlying 362=some (.map 3 4):=by kernel_rfl
theorem go292:JH Tryz.prog 292=true:=by kernel_rfl
theorem go100:JH Tryz.prog 100=true:=by kernel_rfl
theorem un236:Tryz.prog.underlying 236=some (.map 201 4):=by kernel_rfl
instance:FT Tryz.prog 201 [(0,1),(1,1)]:=⟨Te⟩
theorem un110:Tryz.prog.underlying 110=some (.map 3 3):=by kernel_rfl
theorem go201:JH Tryz.prog 201=true:=by kernel_rfl
theorem go203:JH Tryz.prog 203=true:=by kernel_rfl
instance:SC Tryz.prog 131:=⟨Te⟩
theorem go158:JH Tryz.prog 158=true:=by kernel_rfl
instance:FO Tryz.prog 133 0 (0):=⟨Te⟩
instance:AG Tryz.prog 133 (2):=⟨Te⟩
instance:FO Tryz.prog 133 1 (1):=⟨Te⟩
instance ag136:AG Tryz.prog 136 (4):=⟨Te⟩
instance:FO Tryz.prog 136 0 (0):=⟨Te⟩
instance:FO Tryz.prog 136 1 (2):=⟨Te⟩
instance:FO Tryz.prog 136 2 (3):=⟨Te⟩
instance:FT Tryz.prog 133 [(0,1),(1,1)]:=⟨Te⟩
instance ft136:FT Tryz.prog 136 [(0,2),(2,1),(3,1)]:=⟨Te⟩
instance:ZE Tryz.prog 133 [.slice none 0 0,.pointer none]:=⟨Te⟩
instance z136:ZE Tryz.prog 136 [.slice none 0 0,.pointer none,.slice none 0 0,.slice none 0 0]:=⟨Te⟩
theorem go68:JH Tryz.prog 68=true:=by kernel_rfl
theorem un35:Tryz.prog.underlying 35=some (.int .i64):=by kernel_rfl
instance:FO Tryz.prog 179 0 (0):=⟨Te⟩
theorem go235:JH Tryz.prog 235=true:=by kernel_rfl
instance:FO Tryz.prog 179 2 (2):=⟨Te⟩
instance:FO Tryz.prog 179 1 (1):=⟨Te⟩
instance fo183_4:FO Tryz.prog 183 4 (72):=⟨Te⟩
instance:FO Tryz.prog 183 5 (73):=⟨Te⟩
instance:FO Tryz.prog 183 6 (74):=⟨Te⟩
instance:FO Tryz.prog 183 0 (0):=⟨Te⟩
instance:FO Tryz.prog 183 3 (71):=⟨Te⟩
theorem go237:JH Tryz.prog 237=true:=by kernel_rfl
instance z1:ZE Tryz.prog 1 [.nilFunc]:=⟨Te⟩
instance:FO Tryz.prog 183 2 (70):=⟨Te⟩
instance:FO Tryz.prog 289 2 (2):=⟨Te⟩
instance:SC Tryz.prog 180:=⟨Te⟩
instance:FO Tryz.prog 183 1 (3):=⟨Te⟩
theorem go232:JH Tryz.prog 232=true:=by kernel_rfl
instance pb147:PB Tryz.prog 147:=⟨Te⟩
theorem go188:JH Tryz.prog 188=true:=by kernel_rfl
theorem iii32:lA Tryz.prog 32=true:=by kernel_rfl
instance ft179:FT Tryz.prog 179 [(0,1),(1,1),(2,1)]:=⟨Te⟩
instance ft183:FT Tryz.prog 183 [(0,3),(3,67),(70,1),(71,1),(72,1),(73,1),(74,1)]:=⟨Te⟩
instance z179:ZE Tryz.prog 179 [.pointer none,.int .i64 0,.int .i64 0]:=⟨Te⟩
instance z183:ZE Tryz.prog 183 [.pointer none,.int .i64 0,.int .i64 0,.int .i64 0,.int .i64 0,.int .u8 0,.int .u8 0,.int .u8 0,.int .u8 0,.int .u8 0,.int .u8 0,.int .u8 0,.int .u8 0,.int .u8 0,.int .u8 0,.int .u8 0,.int .u8 0,.int .u8 0,.int .u8 0,.int .u8 0,.int .u8 0,.int .u8 0,.int .u8 0,.int .u8 0,.int .u8 0,.int .u8 0,.int .u8 0,.int .u8 0,.int .u8 0,.int .u8 0,.int .u8 0,.int .u8 0,.int .u8 0,.int .u8 0,.int .u8 0,.int .u8 0,.int .u8 0,.int .u8 0,.int .u8 0,.int .u8 0,.int .u8 0,.int .u8 0,.int .u8 0,.int .u8 0,.int .u8 0,.int .u8 0,.int .u8 0,.int .u8 0,.int .u8 0,.int .u8 0,.int .u8 0,.int .u8 0,.int .u8 0,.int .u8 0,.int .u8 0,.int .u8 0,.int .u8 0,.int .u8 0,.int .u8 0,.int .u8 0,.int .u8 0,.int .u8 0,.int .u8 0,.int .u8 0,.int .u8 0,.int .u8 0,.int .u8 0,.int .u8 0,.int .u8 0,.slice none 0 0,.pointer none,.pointer none,.int .i64 0,.int .i64 0,.bool false]:=⟨Te⟩
instance:FO Tryz.prog 72 2 (2):=⟨Te⟩
theorem fv108_0:vI Tryz.prog 108 0=some (0,1,false):=by kernel_rfl
instance ag72:AG Tryz.prog 72 (5):=⟨Te⟩
instance:FO Tryz.prog 72 0 (0):=⟨Te⟩
instance:FO Tryz.prog 72 1 (1):=⟨Te⟩
instance:FO Tryz.prog 72 3 (3):=⟨Te⟩
instance z72:ZE Tryz.prog 72 [.int .i64 0,.int .i64 0,.int .i64 0,.int .i64 0,.int .i64 0]:=⟨Te⟩
theorem go107:JH Tryz.prog 107=true:=by kernel_rfl
instance ag57:AG Tryz.prog 57 (2):=⟨Te⟩
instance:FO Tryz.prog 57 0 (0):=⟨Te⟩
instance:FO Tryz.prog 57 1 (1):=⟨Te⟩
instance:FT Tryz.prog 57 [(0,1),(1,1)]:=⟨Te⟩
instance sc64:SC Tryz.prog 64:=⟨Te⟩
instance sl64:SL Tryz.prog 64 (57,2,16):=⟨Te⟩
instance z57:ZE Tryz.prog 57 [.int .i64 0,.int .u64 0]:=⟨Te⟩
instance ag44:AG Tryz.prog 44 (3):=⟨Te⟩
instance fo44_0:FO Tryz.prog 44 0 (0):=⟨Te⟩
instance:FO Tryz.prog 44 1 (1):=⟨Te⟩
instance fo44_2:FO Tryz.prog 44 2 (2):=⟨Te⟩
theorem go75:JH Tryz.prog 75=true:=by kernel_rfl
instance sc42:SC Tryz.prog 42:=⟨Te⟩
instance sl42:SL Tryz.prog 42 (72,5,40):=⟨Te⟩
theorem sz44:gj Tryz.prog 44=some 3:=by kernel_rfl
instance:ZE Tryz.prog 44 [.slice none 0 0,.bool false,.int .i64 0]:=⟨Te⟩
theorem go50:JH Tryz.prog 50=true:=by kernel_rfl
theorem go27:JH Tryz.prog 27=true:=by kernel_rfl
instance ag28:AG Tryz.prog 28 (71):=⟨Te⟩
theorem Qw(a b:Int)(w0:World)(ha:Pl.aA a)(hb:Pl.aA b):C Tryz.prog 34 [.agg #[.int .i64 a,.int .i64 b]] w0 fun v w'=>v=.bool (Pl.valid a b)∧Ext No w0 w':=by
 refine aH Tryz.func34 fun κ _ Je Jc hm=>?_
 refine au 2 ?_
 refine bT hm fun m1 w hm=>?_
 refine au 21 ?_
 refine JK rfl rfl rfl (fun hc=>(QR rfl (gx hc rfl) (Ql (by simp at hc; omega) (by simp at hc; omega))))<|au 7 ?_
 exact ⟨LM Value.bool (by rw [Bool.eq_iff_iff]; simp [Pl.valid]; omega),hm.to⟩
theorem QC(a b:Int)(w0:World)(h:Pl.aA (a+b)):C Tryz.prog 36 [.agg #[.int .i64 a,.int .i64 b]] w0 fun v w'=>v=.int .i64 (a+b)∧Ext No w0 w':=by
 refine aH Tryz.func36 fun κ _ Je Jc hm=>?_
 refine au 2 ?_
 refine bT hm fun m1 w hm=>?_
 refine au 15 ?_
 exact ⟨rfl,hm.to⟩
theorem qY(w0:World):C Tryz.prog 53 [] w0 fun v w'=>v=.int .i64 4611686018427387903∧Ext No w0 w':=by
 refine aH Tryz.func53 fun κ _ Je Jc hm=>?_
 refine au 12 ?_
 exact ⟨rfl,hm.to⟩
theorem mU(a b:Int)(w0:World)(ha:Pl.aA a)(hb:Pl.aA b):C Tryz.prog 32 [.agg #[.int .i64 a,.int .i64 b]] w0 fun v w'=>v=.bool (Pl.valid a b)∧Ext No w0 w':=by
 refine aH Tryz.func32 fun κ _ Je Jc hm=>?_
 refine au 2 ?_
 refine bT hm fun m1 w hm=>?_
 refine au 4 ?_
 refine dw [0,3,6,9,12,15,18,21,24,27,30,34,36,39,42,45,48,54,57,52,60,63,66,69] hm fun w hw ar hh hm=>?_
 refine au 11 ?_
 refine J1 rfl rfl rfl (fun hc=>rfl) go53 (fun hc=>(qY _)) hh fun w hE hh=>?_
 replace hm:=hm.ext hE
 refine au 7 ?_
 refine J1 rfl rfl rfl (fun hc=>rfl) go53 (fun hc=>(qY _)) hh fun w hE hh=>?_
 replace hm:=hm.ext hE
 refine JK rfl rfl rfl (fun hc=>(QR (gx hc rfl) (gx hc rfl) (Ql (by simp at hc; omega) (by simp at hc; omega))))<|au 7 ?_
 exact ⟨LM Value.bool (by rw [Bool.eq_iff_iff]; simp [Pl.valid]; omega),hm.to⟩
theorem tQ(a b c:Int)(w0:World)(h:Pl.aA (b-a)):C Tryz.prog 153 [.int .i64 a,.int .i64 b,.int .i64 c] w0 fun v w'=>v=.tuple ⟨[.agg ⟨ME (Pl.zn a b c)⟩,.bool (Pl.zn a b c).isSome]⟩∧Ext No w0 w':=by
 refine aH Tryz.func153 fun κ _ Je Jc hm=>?_
 refine au 2 ?_
 refine aT hm fun m1 w hm=>?_
 refine au 13 ?_
 refine cd (fun ai=>?_) fun ai=>?_
 ·
  simp only [bA,bB,bC,bD,bE,bF,dT,dF] at ai
  refine au 3 ?_
  refine st hm 0 fun w hm=>?_
  refine au 6 ?_
  exact ⟨by simp [Mq,Pl.zn,ai,ME],hm.to⟩
 ·
  simp only [bA,bB,bC,bD,bE,bF,dT,dF] at ai
  refine au 9 ?_
  refine st hm 0 fun w hm=>?_
  refine au 5 ?_
  exact ⟨by simp [Mq,Pl.zn,ME,ai],hm.to⟩
theorem Q7(a b c e:Int)(w0:World)(h1:0≤a∧0≤b∧a+b≤9223372036854775807)(h2:0≤c∧0≤e∧c+e≤9223372036854775807):C Tryz.prog 119 [.agg #[.int .i64 a,.int .i64 b],.agg #[.int .i64 c,.int .i64 e]] w0 fun v w'=>v=.tuple ⟨[.agg ⟨ME (Pl.aL a b c e)⟩,.bool (Pl.aL a b c e).isSome]⟩∧Ext No w0 w':=by
 refine aH Tryz.func119 fun κ _ Je Jc hm=>?_
 refine au 2 ?_
 refine bT hm fun m1 w hm=>?_
 refine bT hm fun m2 w hm=>?_
 refine aT hm fun m3 w hm=>?_
 refine au 4 ?_
 refine dw [0,3,6,9,12,15,21,19,25,27,31,33,2,36,40,42] hm fun w hw ar hh hm=>?_
 refine au 7 ?_
 refine cB rfl rfl rfl (QC _ _ _ Ta) hm hh fun w hm hh=>cB rfl rfl rfl (QC _ _ _ Ta) hm hh fun w hm hh=>au 1 ?_
 refine cB rfl rfl rfl (tQ _ _ _ _ Ta) hm hh fun w hm hh=>au 3 ?_
 refine st hm 0 fun w hm=>?_
 refine au 5 ?_
 exact ⟨rfl,hm.to⟩
theorem oe(c e a b:Int)(m:Nat)(w0:World)(hb:w0.heap[m]?=some (ag.row 32 [.int .i64 a,.int .i64 b]).Jd)(h1:Pl.aA (a+b))(h2:Pl.aA (c+e)):C Tryz.prog 312 [.agg #[.int .i64 c,.int .i64 e],.pointer (some ⟨m,0,none⟩)] w0 fun v w'=>v=.bool (!Pl.within a b c e)∧Ext No w0 w':=by
 refine aH Tryz.func312 fun κ _ Je Jc hm=>?_
 refine au 2 ?_
 refine bT hm fun m1 w hm=>?_
 refine au 4 ?_
 refine dw [0,3,6,9,12,15,18,24,22,2,28,30,33,36] hm fun w hw ar hh hm=>?_
 refine au 7 ?_
 refine JK rfl rfl rfl (fun hc=>(Jm (s:=2) (vs:=[_,_]) rfl ag32.h (fun u hu=>((ar.to.trans hu).same _ (Lb.1 hb).1 id).trans hb) rfl))<|J1 rfl rfl rfl (fun hc=>(J8 (gx hc rfl) QL)) go36 (fun hc=>(QC _ _ _ Ta)) hh fun w hE hh=>?_
 replace hm:=hm.ext hE
 refine au 1 ?_
 refine J1 rfl rfl rfl (fun hc=>(J8 (gx hc rfl) QL)) go36 (fun hc=>(QC _ _ _ Ta)) trivial fun w hE hh=>?_
 replace hm:=hm.ext hE
 refine au 7 ?_
 exact ⟨LM Value.bool (by rw [Bool.eq_iff_iff]; simp [Pl.within]),hm.to⟩
theorem C8(p:Tg)(cap:Nat)(xs:Tl)(fi:FuncId)(l2:Ti)(pred:(Int×Int)→Bool)(w0:World)(hx:Rd w0 p (xs.flatMap Q9))(hlen:xs.length≤9223372036854775807)(hg:JH Tryz.prog fi=true)(hf:∀ x w1,x∈xs→Ext No w0 w1→C Tryz.prog fi (.agg ⟨Q9 x⟩::l2) w1 fun v w2=>v=.bool (pred x)∧Ext No w1 w2):C Tryz.prog 280 [.slice p xs.length cap,.func (.func fi) #[] ⟨l2⟩] w0 fun v w'=>v=.int .i64 (Pl.idx pred xs)∧Ext No w0 w':=by
 refine aH Tryz.func280 fun κ _ Je Jc hm=>?_
 refine au 14 ?_
 refine Jg (ι:=Nat) rfl (ks:=[0,1,7]) Tn (fun k=>[(8,.int .i64 k)]) (fun k w=>Mem w0 w No []∧k≤xs.length∧∀ (j:Nat) y,j<k→xs[j]?=some y→pred y=false) (fun k=>xs.length-k) 0 (⟨hm,LL _,fun _ _ h=>absurd h (Nat.not_lt_zero _)⟩) Tm (fun k w hM=>?_)
 obtain ⟨hm,hk,cz⟩:=hM
 refine au 6 ?_
 refine cd (fun ai=>?_) fun ai=>?_
 ·
  simp only [dT] at ai
  obtain ⟨x,hi⟩:∃ y_,xs[k]?=some y_:=⟨_,La Ta⟩
  obtain ⟨qb,qo,rfl⟩:=hx.bS QM Tb hi
  refine au 16 ?_
  refine Ja rfl rfl (JU rfl ag32.h (hx.Jj hm.to).nt QM hi)<|Qf rfl rfl rfl rfl hg (hf x _ (Ld hi) hm.to) fun v w hR=>?_
  obtain ⟨rfl,hE⟩:=hR
  refine ⟨trivial,?_⟩
  replace hm:=hm.ext hE
  refine au 2 ?_
  refine cd (fun ao=>?_) fun ao=>?_
  ·
   refine au 13 ?_
   exact ⟨by rw [Pl.X8 hi ao cz],hm.to⟩
  ·
   refine au 7 ?_
   refine next (k+1) Ta ⟨hm,Ta,fun j y hj hy=>?_⟩ ⟨nx k,Tm⟩
   rcases L7 j k with h | h
   · exact cz j y h hy
   · obtain rfl:j=k:=by omega
     rw [hi] at hy; cases hy; exact ao
 ·
  have hk:k=xs.length:=by simp at ai; omega
  subst hk
  refine au 12 ?_
  exact ⟨by rw [Pl.YN cz],hm.to⟩
theorem tR(p:Tg)(cap:Nat)(xs:Tl)(fi:FuncId)(l2:Ti)(pred:(Int×Int)→Bool)(w0:World)(hx:Rd w0 p (xs.flatMap Q9))(hlen:xs.length≤9223372036854775807)(hg:JH Tryz.prog fi=true)(hf:∀ x w1,x∈xs→Ext No w0 w1→C Tryz.prog fi (.agg ⟨Q9 x⟩::l2) w1 fun v w2=>v=.bool (pred x)∧Ext No w1 w2):C Tryz.prog 251 [.slice p xs.length cap,.func (.func fi) #[] ⟨l2⟩] w0 fun v w'=>v=.bool (xs.any pred)∧Ext No w0 w':=by
 refine aH Tryz.func251 fun κ _ Je Jc hm=>?_
 refine au 9 ?_
 refine cA rfl rfl rfl (C8 p cap xs fi l2 pred _ hx hlen hg hf) hm fun w hm=>au 6 ?_
 exact ⟨by rw [← Pl.lF],hm.to⟩
theorem ext_contains(a b:Int)(p:Tg)(cap:Nat)(xs:Tl)(w0:World)(h1:Pl.aA (a+b))(hx:Rd w0 p (xs.flatMap Q9))(hlen:xs.length≤9223372036854775807)(aq:∀ x∈xs,Pl.aA (x.1+x.2)):C Tryz.prog 310 [.agg #[.int .i64 a,.int .i64 b],.slice p xs.length cap] w0 fun v w'=>v=.bool (xs.all fun x=>Pl.within a b x.1 x.2)∧Ext No w0 w':=by
 refine aH Tryz.func310 fun κ _ Je Jc hm=>?_
 refine au 2 ?_
 refine bT hm fun m1 w hm=>?_
 refine au 7 ?_
 refine cA rfl rfl rfl (tR p cap xs _ _ (fun x=>!Pl.within a b x.1 x.2) _ (hx.Jj hm.to) hlen go312 fun x w1 rY nL=>oe x.1 x.2 a b m1 w1 ((nL.same _ (hm.lt (Lo)) id).trans (hm.get (k:=0) rfl)) Ta (aq x rY)) hm fun w hm=>au 6 ?_
 exact ⟨LM Value.bool (by simp [List.all_eq_not_any_not]),hm.to⟩
theorem z7(p:Tg)(cap:Nat)(xs:Tl)(w0:World)(hx:Rd w0 p (xs.flatMap Q9))(hlen:xs.length≤9223372036854775807)(aq:∀ x∈xs,Pl.ZZ x):C Tryz.prog 183 [.slice p xs.length cap] w0 fun v w'=>v=.tuple ⟨[.int .i64 ((Pl.total 0 xs).getD 0),.bool (Pl.total 0 xs).isSome]⟩∧Ext No w0 w':=by
 refine aH Tryz.func183 fun κ _ Je Jc hm=>?_
 refine au 20 ?_
 refine Jg (ι:=Nat×Int) rfl (ks:=[7,8]) Tn (fun x=>[(9,.int .i64 x.1),(4,.int .i64 x.2)]) (fun x w=>Mem w0 w No []∧x.1≤xs.length∧0≤x.2∧x.2≤4611686018427387903∧Pl.total 0 xs=Pl.total x.2 (xs.drop x.1)) (fun x=>xs.length-x.1) (0,0) (⟨hm,LL _,Tc,Tc,Tc⟩) Tm (fun x w hM=>?_)
 obtain ⟨hm,hk,Fx,sK,ht⟩:=hM
 refine au 6 ?_
 refine cd (fun ai=>?_) fun ai=>?_
 ·
  simp only [dT] at ai
  obtain ⟨el,hi⟩:∃ y_,xs[x.1]?=some y_:=⟨_,La Ta⟩
  obtain ⟨qb,qo,rfl⟩:=hx.bS QM Tb hi
  have ya:=aq el (Ld hi)
  unfold Pl.ZZ at ya
  refine au 7 ?_
  refine Ja rfl rfl (JU rfl ag32.h (hx.Jj hm.to).nt QM hi)<|aT hm fun m1 w hm=>?_
  refine st hm 0 fun w hm=>?_
  refine au 17 ?_
  refine cd (fun ao=>?_) fun ao=>?_
  ·
   simp only [bA,bB,bC,bD,bE,bF,dT,dF] at ao
   refine au 13 ?_
   have e:Pl.total 0 xs=none:=by rw [ht,Pl.drop_cons hi,Pl.total,LI ao]
   rw [e]; exact ⟨rfl,hm.to⟩
  ·
   simp only [bA,bB,bC,bD,bE,bF,dT,dF] at ao
   refine au 7 ?_
   refine next (x.1+1,x.2+el.2) Td ⟨hm.tail,Td,Td,Td,?_⟩ ⟨nx x.1,Tm⟩
   rw [ht,Pl.drop_cons hi,Pl.total,LH ao]
 ·
  simp only [dF] at ai
  have hk:x.1=xs.length:=by omega
  rw [hk,List.drop_length] at ht
  refine au 14 ?_
  have e:Pl.total 0 xs=some x.2:=by rw [ht,Pl.total]
  rw [e]; exact ⟨rfl,hm.to⟩
theorem wG(a b c e:Int)(w0:World)(h1:0≤a∧0≤b∧a+b≤9223372036854775807)(h2:0≤c∧0≤e∧c+e≤9223372036854775807):C Tryz.prog 85 [.agg #[.int .i64 a,.int .i64 b],.agg #[.int .i64 c,.int .i64 e]] w0 fun v w'=>v=.agg ⟨ME (Pl.aL a b c e)⟩∧Ext No w0 w':=by
 refine aH Tryz.func85 fun κ _ Je Jc hm=>?_
 refine au 2 ?_
 refine bT hm fun m1 w hm=>?_
 refine bT hm fun m2 w hm=>?_
 refine aT hm fun m3 w hm=>?_
 refine au 36 ?_
 refine cd (fun ai=>?_) fun ai=>?_
 ·
  simp only [bA,bB,bC,bD,bE,bF,dT,dF] at ai
  refine au 3 ?_
  refine st hm 0 fun w hm=>?_
  refine au 5 ?_
  exact ⟨by simp only [Pl.aL,Pl.zn]; rw [LI Ta]; rfl,hm.to⟩
 ·
  simp only [bA,bB,bC,bD,bE,bF,dT,dF] at ai
  refine au 9 ?_
  refine st hm 0 fun w hm=>?_
  refine au 4 ?_
  exact ⟨by simp only [Pl.aL,Pl.zn]; rw [LH Ta]; rfl,hm.to⟩
theorem wH(a b c:Int)(w0:World):C Tryz.prog 285 [.agg #[.int .i64 a,.int .i64 b],.int .i64 c] w0 fun v w'=>∃ m1 m2,v=.func (.func 304) #[] ⟨[.pointer (some ⟨m1,0,none⟩),.pointer (some ⟨m2,0,none⟩)]⟩∧Mem w0 w' No [(m2,.row 3 [.int .i64 c]),(m1,.row 32 [.int .i64 a,.int .i64 b])]:=by
 refine aH Tryz.func285 fun κ _ Je Jc hm=>?_
 refine au 2 ?_
 refine bT hm fun m1 w hm=>?_
 refine bT hm fun m2 w hm=>?_
 refine au 11 ?_
 exact ⟨_,_,rfl,hm⟩
theorem tS(a b c:Int)(m1 m2 yl:Nat)(I J:Nat→World→Prop)(w0:World)(hs:1≤c∧c≤9223372036854775807)(h:0≤a∧0≤b∧a+b≤4611686018427387903)
 (hcI:∀ i w,I i w→w.heap[m1]?=some (ag.row 32 [.int .i64 (Pl.rest a b c i).1,.int .i64 (Pl.rest a b c i).2]).Jd∧w.heap[m2]?=some (ag.row 3 [.int .i64 c]).Jd)
 (hcJ:∀ i w,J i w→w.heap[m1]?=some (ag.row 32 [.int .i64 (Pl.rest a b c i).1,.int .i64 (Pl.rest a b c i).2]).Jd)
 (hy:∀ i w,I i w→0<(Pl.rest a b c i).2→Yw Tryz.prog yl [.agg ⟨[.int .i64 (Pl.rest a b c i).1,.int .i64 (min c (Pl.rest a b c i).2)]⟩] w fun v w'=>v=.bool true∧J i w')
 (cF:∀ i w,J i w→0<(Pl.rest a b c i).2→I (i+1) ((w.setRow m1 ⟨[.int .i64 ((Pl.rest a b c i).1+min c (Pl.rest a b c i).2),.int .i64 (Pl.rest a b c i).2]⟩).setRow m1 ⟨[.int .i64 ((Pl.rest a b c i).1+min c (Pl.rest a b c i).2),.int .i64 ((Pl.rest a b c i).2-min c (Pl.rest a b c i).2)]⟩)) (h0:I 0 w0):C Tryz.prog 304 [.func (.yield yl) #[] #[],.pointer (some ⟨m1,0,none⟩),.pointer (some ⟨m2,0,none⟩)] w0 fun v w'=>∃ i,I i w'∧(Pl.rest a b c i).2=0∧∀ j,j<i→0<(Pl.rest a b c j).2:=by
 refine Vk Tryz.func304 rfl rfl rfl fun κ _ Je Jc=>au 1 ?_
 refine Jg (ι:=Nat) rfl (ks:=[0,1,2]) Tn (fun i=>[]) (fun i w=>I i w∧∀ j,j<i→0<(Pl.rest a b c j).2) (fun i=>(Pl.rest a b c i).2.toNat) 0 (⟨h0,fun _ h=>absurd h (Nat.not_lt_zero _)⟩) trivial (fun i w hM=>?_)
 obtain ⟨hI,aX⟩:=hM
 obtain ⟨hb,hz⟩:=hcI _ _ hI
 have h1:=Pl.lG a b c i
 have h2:=Pl.qu (o:=a) (i:=i) hs.1 h.2.1
 refine au 4 ?_
 refine Ja rfl rfl (Jh rfl sc3.h (Qo hb) rfl)<|au 3 ?_
 refine cd (fun ai=>?_) fun ai=>?_
 ·
  simp only [dT] at ai
  have hn:=Pl.iP hs.1 ai
  refine au 5 ?_
  refine Ja rfl rfl (Jh rfl sc3.h (Qo hz) rfl)<|au 1 ?_
  refine Ja rfl rfl (Jh rfl sc3.h (Qo hb) rfl)<|au 9 ?_
  refine Ja rfl rfl (Jh rfl sc3.h (Qo hb) rfl)<|au 2 ?_
  refine XM rfl rfl rfl rfl (hy i _ hI ai) fun v w hR=>?_
  obtain ⟨rfl,hJ⟩:=hR
  refine ⟨trivial,?_⟩
  have hb:=hcJ _ _ hJ
  refine au 9 ?_
  refine Ja rfl rfl (Jh rfl sc3.h (Qo hb) rfl)<|au 3 ?_
  refine sv rfl rfl rfl rfl sz3 rfl hb rfl ?_
  replace hb:=Gl (l':=[.int .i64 ((Pl.rest a b c i).1+min c (Pl.rest a b c i).2),.int .i64 (Pl.rest a b c i).2]) hb
  refine au 4 ?_
  refine Ja rfl rfl (Jh rfl sc3.h (Qo hb) rfl)<|au 3 ?_
  refine sv rfl rfl rfl rfl sz3 rfl hb rfl<|au 2 ?_
  refine next (i+1) ?_ ⟨cF i _ hJ ai,fun j hj=>?_⟩ Tm
  · rw [hn]; simp only; omega
  · rcases L7 j i with h | h
    · exact aX j h
    · obtain rfl:j=i:=by omega
      exact ai
 ·
  simp only [bA,bB,bC,bD,bE,bF,dT,dF] at ai
  refine au 4 ?_
  refine eK (fin Jc rfl .nil .nil ?_)
  exact ⟨i,hI,Ta,aX⟩
theorem z8(a b c:Int)(w0:World)(h:0≤a∧0≤b∧a+b≤4611686018427387903)(hc:Pl.aA c):C Tryz.prog 262 [.agg #[.int .i64 a,.int .i64 b],.int .i64 c] w0 fun v w'=>∃ p cap gg bb n,v=.slice p n cap∧(n:Int)=Pl.pieces b c∧Acc 32 2 p n cap ((List.range n).flatMap fun j=>Q9 (Pl.piece a b c j)) gg bb∧Mem w0 w' No [(gg,bb)]:=by
 refine Zt Tryz.func262 rfl rfl rfl fun κ _ Je Jc=>?_
 have hm:=Mem.start w0
 refine au 2 ?_
 refine bT hm fun m1 w hm=>?_
 refine au 16 ?_
 refine JK rfl rfl rfl (fun hc=>(QR (gx hc rfl) rfl (Ql Ta Ta))) ?_
 refine au 1 ?_
 refine JK rfl rfl rfl (fun hc=>(Yy (gx hc rfl) (gx hc rfl) (by simp at hc; omega) (oS (by simp at hc; omega) Ta (by simp at hc; omega)))) ?_
 refine au 4 ?_
 refine cd (fun ai=>?_) fun ai=>?_
 ·
  simp only [bA,bB,bC,bD,bE,bF,dT,dF] at ai
  refine au 7 ?_
  refine dD (RJ Je rfl (.tmp rfl .nil) .one ?_)
  exact ⟨none,0,0,.gap,0,rfl,by unfold Pl.pieces; rw [LI Ta]; rfl,.nil _ _ _ _,(hm.drop (List.nil_sublist _)).JP⟩
 ·
  simp only [bA,bB,bC,bD,bE,bF,dT,dF] at ai
  refine au 4 ?_
  refine aT hm fun m2 w hm=>?_
  replace hm:=hm.JP
  have ah:=Acc.nil 32 2 none 0
  refine au 7 ?_
  refine cT rfl rfl rfl (wH _ _ _ _) fun v w hR=>?_
  obtain ⟨q1,q2,rfl,ae⟩:=hR
  replace hm:=hm.call (A:=[]) ae fun _ h=>h.elim
  refine au 3 ?_
  refine VJ rfl rfl go304 hm fun a_ fn r0 l w LB jF dV Km Kn hm=>?_
  refine C.mono (tS a b c q1 q2 l (fun i w=>∃ p cap gg bb,Mem w0 w No ((l,LB .ready none)::(r0,eh (some []))::(q2,.row 3 [.int .i64 c])::(q1,.row 32 [.int .i64 (Pl.rest a b c i).1,.int .i64 (Pl.rest a b c i).2])::(gg,bb)::(m2,.row 240 [.slice p i cap])::(m1,.row 32 [.int .i64 a,.int .i64 b])::[])∧Acc 32 2 p i cap ((List.range i).flatMap fun j=>Q9 (Pl.piece a b c j)) gg bb)
   (fun i w=>∃ p cap gg bb,Mem w0 w No ((l,LB .ready none)::(r0,eh (some []))::(q2,.row 3 [.int .i64 c])::(q1,.row 32 [.int .i64 (Pl.rest a b c i).1,.int .i64 (Pl.rest a b c i).2])::(gg,bb)::(m2,.row 240 [.slice p (i+1) cap])::(m1,.row 32 [.int .i64 a,.int .i64 b])::[])∧Acc 32 2 p (i+1) cap ((List.range (i+1)).flatMap fun j=>Q9 (Pl.piece a b c j)) gg bb)
   _ Ta h ?_ ?_ (fun i w hI aX=>?_) ?_ ⟨none,0,0,.gap,by rw [Pl.Y4 h.2.1]; exact hm,ah⟩) (fun v w hR=>?_)
  · rintro i w ⟨p,cap,gg,bb,hm,-⟩; exact ⟨hm.get (k:=3) rfl,hm.get (k:=2) rfl⟩
  · rintro i w ⟨p,cap,gg,bb,hm,-⟩; exact hm.get (k:=3) rfl
  rotate_left
  · rintro i w ⟨p,cap,gg,bb,hm,ha⟩ aX
    have h1:=Qk (l':=[.int .i64 ((Pl.rest a b c i).1+min c (Pl.rest a b c i).2),.int .i64 (Pl.rest a b c i).2]) hm (j:=3) rfl
    have h2:=Qk (l':=[.int .i64 ((Pl.rest a b c i).1+min c (Pl.rest a b c i).2),.int .i64 ((Pl.rest a b c i).2-min c (Pl.rest a b c i).2)]) h1 (j:=3) rfl
    exact ⟨p,cap,gg,bb,by rw [Pl.iP Ta aX]; exact h2,ha⟩
  rotate_left
  ·
   subst jF
   obtain ⟨aK,aj,aI,aF,hm,ah⟩:=hI
   have oQ:=Pl.sL (o:=a) Ta aX
   have zb:=Pl.Zz aX
   refine Yw.of dV (hm.get (k:=0) rfl) rfl rfl ?_
   refine au 1 ?_
   refine aT hm fun m3 w hm=>?_
   refine st hm 0 fun w hm=>?_
   refine au 1 ?_
   refine Xf hm 1 rfl fun w hm=>?_
   refine XC rfl ?_
   refine JT (.pure 0 (.pure 1 (.act 2 (.act 3 (.act 4 .done))))) Te ?_
   refine Ja rfl rfl (Jh rfl sc240.h (hm.nt 6 rfl) rfl) ?_
   refine Ja rfl rfl (Jm (s:=2) (vs:=[_,_]) rfl ag32.h (hm.nt 0 rfl) rfl) ?_
   refine Jb (l:=[_,_]) rfl rfl sl240.h z32.h rfl rfl rfl rfl rfl rfl rfl hm trivial fun m4 w mV hm hh=>?_
   refine Jy rfl rfl rfl rfl rfl rfl sl240.h sl240.h z32.h rfl rfl (Rd.JL (hm.get (k:=0) rfl)) rfl ah hm 6 rfl Ta Ta fun aK aj aI aF w ah hm=>?_
   refine st hm 7 fun w hm=>?_
   refine au 2 ?_
   refine gz hm 2 rfl fun w hm=>?_
   refine ⟨rfl,aK,aj,aI,aF,hm.tail.tail,?_⟩
   rw [List.range_succ,Lh]; simp only [Lk,LY,Lq]
   rw [zb]; exact ah
  ·
   subst jF
   obtain ⟨i,⟨aK,aj,aI,aF,hm,ah⟩,hz,aX⟩:=hR
   refine ⟨.ready,none,nofun,hm.get (k:=0) rfl,fun w4 oh=>?_⟩
   replace hm:=Xw hm oh
   refine au 9 ?_
   refine dD (ly Je rfl hm 0 rfl .one fun w hm=>⟨(.tmp rfl .nil),?_⟩)
   exact ⟨aK,aj,aI,aF,i,rfl,Pl.zo Ta Ta Ta hz aX,ah,hm.tail.tail.tail.drop (List.Sublist.cons_cons _ (List.nil_sublist _))⟩
theorem V0(p:Tg)(cap:Nat)(xs:Th)(w0:World)(hx:Rd w0 p (xs.flatMap Jk))(hlen:xs.length*1≤140737488355328):C Tryz.prog 49 [.slice p xs.length cap] w0 fun v w'=>∃ q c g b,v=.slice q xs.length c∧Acc 5 1 q xs.length c (xs.flatMap Jk) g b∧Mem w0 w' No [(g,b)]:=by
 refine aH Tryz.func49 fun κ _ Je Jc hm=>?_
 refine au 9 ?_
 refine Ja rfl rfl (vJ rfl rfl sb22)<|au 2 ?_
 refine cd (fun ai=>?_) fun ai=>?_
 ·
  obtain rfl:p=none:=by simpa using ai
  obtain rfl:=vK hx
  refine au 8 ?_
  exact ⟨none,0,0,.gap,rfl,.nil _ _ _ _,hm.JP⟩
 ·
  refine au 4 ?_
  refine Jb (l:=[]) rfl rfl sl22.h z5.h rfl rfl rfl rfl rfl rfl rfl hm trivial fun m1 w c5 hm hh=>au 1 ?_
  refine Jy rfl rfl rfl rfl rfl rfl sl22.h sl22.h z5.h rfl (Zl xs) (hx.Jj hm.to) (J0 xs) (Acc.row rfl) hm 0 rfl Ta Ta fun C9 mW C' Da w tT hm=>au 5 ?_
  exact ⟨C9,mW,C',Da,by rw [LV],by simpa only [LV,L4] using tT,hm⟩
theorem Nh(p q:Tg)(c1 c2:Nat)(xs ys:Th)(w0:World)(hx:Rd w0 p (xs.flatMap Jk))(hy:Rd w0 q (ys.flatMap Jk))(h1:xs.length≤9223372036854775807)(h2:ys.length≤9223372036854775807):C Tryz.prog 13 [.slice p xs.length c1,.slice q ys.length c2] w0 fun v w'=>v=.bool (decide (xs=ys))∧Ext No w0 w':=by
 refine aH Tryz.func13 fun κ _ Je Jc hm=>?_
 refine au 15 ?_
 refine cd (fun ai=>?_) fun ai=>?_
 ·
  simp only [dT] at ai
  refine au 8 ?_
  exact ⟨by rw [LN fun e=>ai (by rw [e])],hm.to⟩
 ·
  simp only [dF] at ai
  have hl:xs.length=ys.length:=by omega
  refine au 11 ?_
  refine Jg (ι:=Nat) rfl (ks:=[0,1,12]) Tn (fun k=>[(13,.int .i64 k)]) (fun k w=>Mem w0 w No []∧k≤xs.length∧∀ (j:Nat),j<k→xs[j]?=ys[j]?) (fun k=>xs.length-k) 0 (⟨hm,LL _,fun _ h=>absurd h (Nat.not_lt_zero _)⟩) Tm (fun k w hM=>?_)
  obtain ⟨hm,hk,cz⟩:=hM
  refine au 6 ?_
  refine cd (fun ao=>?_) fun ao=>?_
  ·
   simp only [dT] at ao
   obtain ⟨x,hi⟩:∃ y_,xs[k]?=some y_:=⟨_,La Ta⟩
   obtain ⟨qb,qo,rfl⟩:=hx.bS JG Tb hi
   obtain ⟨y,dW⟩:∃ y_,ys[k]?=some y_:=⟨_,La Ta⟩
   obtain ⟨b2,o2,rfl⟩:=hy.bS JG Tb dW
   refine au 11 ?_
   refine dw [0,3,6,9,12,15,18,21,24] hm fun w hw ar hh hm=>?_
   refine au 3 ?_
   refine Ja rfl rfl (J3 rfl sc5.h (hx.Jj ar.to).nd JG hi rfl)<|au 3 ?_
   refine Ja rfl rfl (J3 rfl sc5.h (hy.Jj ar.to).nd JG dW rfl)<|au 3 ?_
   refine cd (fun aD=>?_) fun aD=>?_
   ·
    simp only [bA,bB,bC,bD,bE,bF,dT,dF] at aD
    refine au 12 ?_
    exact ⟨by rw [LN fun e=>by subst e; rw [hi] at dW; cases dW; exact aD rfl],hm.to⟩
   ·
    simp only [bA,bB,bC,bD,bE,bF,dT,dF] at aD
    refine au 7 ?_
    refine next (k+1) Ta ⟨hm,Ta,fun j hj=>?_⟩ ⟨nx k,Tm⟩
    rcases L7 j k with h | h
    · exact cz j h
    · obtain rfl:j=k:=by omega
      rw [hi,dW]; exact LM some (UInt8.toNat_inj.1 Ta)
  ·
   simp only [dF] at ao
   have hk:k=xs.length:=by omega
   subst hk
   refine au 12 ?_
   exact ⟨by rw [LQ (Pl.IY hl cz)],hm.to⟩
theorem GZ(p q:Tg)(c1 c2:Nat)(xs ys:Th)(w0:World)(hx:Rd w0 p (xs.flatMap Jk))(hy:Rd w0 q (ys.flatMap Jk)):C Tryz.prog 80 [.slice p xs.length c1,.slice q ys.length c2] w0 fun v w'=>v=.bool (decide (xs=ys))∧Ext No w0 w':=by
 refine aH Tryz.func80 fun κ _ Je Jc hm=>?_
 refine au 8 ?_
 refine Ja rfl rfl (BY rfl bt22_9 ((hx.Jj hm.to).nt) rfl)<|au 1 ?_
 refine Ja rfl rfl (BY rfl bt22_9 ((hy.Jj hm.to).nt) rfl)<|Ja rfl rfl (My rfl rfl)<|au 5 ?_
 exact ⟨rfl,hm.to⟩
theorem G0(n:Nat)(w0:World)(hn:n≤140737488355328):C Tryz.prog 72 [.slice none 0 0,.int .i64 n] w0 fun v w'=>∃ p cap g b,v=.slice p 0 cap∧Acc 5 1 p 0 cap [] g b∧Mem w0 w' No [(g,b)]:=by
 refine aH Tryz.func72 fun κ _ Je Jc hm=>?_
 refine au 12 ?_
 refine Ye rfl rfl (LN Ta)<|au 7 ?_
 refine Ja rfl rfl (IX rfl rfl sl22.h)<|au 3 ?_
 refine Ja rfl rfl (QR rfl rfl ((Ql (by simp <;> omega) (by simp <;> omega)).trans (by simp:(n:Int)-((0:Nat)-(0:Nat))=(n:Int))))<|au 9 ?_
 refine cd (fun ao=>?_) fun ao=>?_
 ·
  simp only [bA,bB,bC,bD,bE,bF,dT,dF] at ao
  refine au 3 ?_
  refine Ja rfl rfl (IX rfl rfl sl22.h)<|Ja rfl rfl (cy (JE (ln:=0) (hn:=0) rfl sl22.h rfl ⟨_,rfl⟩ (LP _) (LP _) (fun h=>absurd rfl h)) (show _=Value.slice none 0 0 from rfl)) ?_
  replace hm:=hm.JP
  have df:=Acc.nil 5 1 none 0
  refine au 1 ?_
  refine oR rfl rfl rfl rfl rfl rfl sl22.h it3 z5.h rfl rfl df hm 0 rfl Ta Ta fun om cC r6 jT w df hm=>au 2 ?_
  refine Ja rfl rfl (cy (JE (ln:=0) (hn:=0) rfl sl22.h rfl ⟨_,rfl⟩ (LP _) (LL _) (fun h=>df.spot h)) (show _=Value.slice om 0 cC by rw [VR df.spot]; rfl))<|au 11 ?_
  first | exact ⟨none,0,0,.gap,rfl,.nil _ _ _ _,hm.JP⟩ | exact ⟨om,cC,r6,jT,rfl,df.RV,hm⟩
 ·
  have Fx:n=0:=by simp at ao; omega
  refine au 10 ?_
  first | exact ⟨none,0,0,.gap,rfl,.nil _ _ _ _,hm.JP⟩ | exact ⟨om,cC,r6,jT,rfl,df.RV,hm⟩
theorem G1(c:Pl.Cm)(p:Tg)(cap:Nat)(w0:World):C Tryz.prog 152 [.agg ⟨fV c p c.bs.length cap⟩] w0 fun v w'=>v=.agg ⟨[.int .i64 c.to,.int .i64 (Pl.aw c)]⟩∧Ext No w0 w':=by
 refine aH Tryz.func152 fun κ _ Je Jc hm=>?_
 refine au 2 ?_
 refine bT hm fun m1 w hm=>?_
 refine aT hm fun m2 w hm=>?_
 refine au 18 ?_
 refine cd (fun ai=>?_) fun ai=>?_
 ·
  simp only [bA,bB,bC,bD,bE,bF,dT,dF] at ai
  refine au 13 ?_
  refine st hm 0 fun w hm=>?_
  refine au 4 ?_
  exact ⟨by simp [Pl.aw,ai],hm.to⟩
 ·
  simp only [bA,bB,bC,bD,bE,bF,dT,dF] at ai
  refine au 9 ?_
  refine st hm 0 fun w hm=>?_
  refine au 4 ?_
  exact ⟨by simp [Pl.aw,ai],hm.to⟩
theorem Vd(c:Pl.Cm)(p:Tg)(cap:Nat)(w0:World):C Tryz.prog 118 [.agg ⟨fV c p c.bs.length cap⟩] w0 fun v w'=>v=.agg ⟨[.int .i64 c.to,.int .i64 (Pl.aw c)]⟩∧Ext No w0 w':=by
 refine aH Tryz.func118 fun κ _ Je Jc hm=>?_
 refine au 2 ?_
 refine bT hm fun m1 w hm=>?_
 refine aT hm fun m2 w hm=>?_
 refine au 5 ?_
 refine cA rfl rfl rfl (G1 _ _ _ _) hm fun w hm=>Ja rfl rfl (QF rfl fv232_0 rfl)<|st hm 0 fun w hm=>?_
 refine au 4 ?_
 exact ⟨rfl,hm.to⟩
theorem VI(c:Pl.Cm)(p:Tg)(cap:Nat)(w0:World):C Tryz.prog 95 [.agg ⟨fV c p c.bs.length cap⟩] w0 fun v w'=>v=.tuple ⟨[.agg ⟨Q9 (Pl.br c)⟩,.bool (decide (c.k=1))]⟩∧Ext No w0 w':=by
 refine aH Tryz.func95 fun κ _ Je Jc hm=>?_
 refine au 2 ?_
 refine bT hm fun m1 w hm=>?_
 refine aT hm fun m2 w hm=>?_
 refine au 11 ?_
 refine cd (fun ai=>?_) fun ai=>?_
 ·
  simp only [bA,bB,bC,bD,bE,bF,dT,dF] at ai
  refine au 3 ?_
  refine st hm 0 fun w hm=>?_
  refine au 6 ?_
  exact ⟨by clear Je Jc hm; by_cases hk:c.k=1 <;> simp_all [Pl.br,Q9],hm.to⟩
 ·
  simp only [bA,bB,bC,bD,bE,bF,dT,dF] at ai
  refine au 9 ?_
  refine st hm 0 fun w hm=>?_
  refine au 5 ?_
  exact ⟨by clear Je Jc hm; by_cases hk:c.k=1 <;> simp_all [Pl.br,Q9],hm.to⟩
theorem wI(a b c:Int)(w0:World):C Tryz.prog 29 [.int .i64 a,.int .i64 b,.int .i64 c] w0 fun v w'=>v=.agg ⟨fV ⟨1,a,b,c,[]⟩ none 0 0⟩∧Ext No w0 w':=by
 refine aH Tryz.func29 fun κ _ Je Jc hm=>?_
 refine au 2 ?_
 refine aT hm fun m1 w hm=>?_
 refine au 8 ?_
 refine st hm 0 fun w hm=>?_
 refine au 4 ?_
 exact ⟨rfl,hm.to⟩
theorem mX(c:Pl.Cm)(p:Tg)(cap:Nat)(w0:World):C Tryz.prog 87 [.agg ⟨fV c p c.bs.length cap⟩] w0 fun v w'=>v=.int .i64 (Pl.aw c)∧Ext No w0 w':=by
 refine aH Tryz.func87 fun κ _ Je Jc hm=>?_
 refine au 2 ?_
 refine bT hm fun m1 w hm=>?_
 refine au 11 ?_
 refine cd (fun ai=>?_) fun ai=>?_
 ·
  simp only [bA,bB,bC,bD,bE,bF,dT,dF] at ai
  refine au 10 ?_
  exact ⟨by simp [Pl.aw,ai],hm.to⟩
 ·
  simp only [bA,bB,bC,bD,bE,bF,dT,dF] at ai
  refine au 12 ?_
  exact ⟨by simp [Pl.aw,ai],hm.to⟩
theorem Y6(c:Pl.Cm)(p:Tg)(cap:Nat)(w0:World):C Tryz.prog 57 [.agg ⟨fV c p c.bs.length cap⟩] w0 fun v w'=>v=.agg ⟨[.int .i64 c.to,.int .i64 (Pl.aw c)]⟩∧Ext No w0 w':=by
 refine aH Tryz.func57 fun κ _ Je Jc hm=>?_
 refine au 2 ?_
 refine bT hm fun m1 w hm=>?_
 refine aT hm fun m2 w hm=>?_
 refine au 3 ?_
 refine dw [0,3,6,10,2,12,16] hm fun w hw ar hh hm=>?_
 refine au 3 ?_
 refine cB rfl rfl rfl (mX _ _ _ _) hm hh fun w hm hh=>au 2 ?_
 refine st hm 0 fun w hm=>?_
 refine au 4 ?_
 exact ⟨rfl,hm.to⟩
theorem z'(c:Pl.Cm)(p:Tg)(cap:Nat)(w0:World):C Tryz.prog 88 [.agg ⟨fV c p c.bs.length cap⟩] w0 fun v w'=>v=.agg ⟨[.int .i64 c.fr,.int .i64 c.ln]⟩∧Ext No w0 w':=by
 refine aH Tryz.func88 fun κ _ Je Jc hm=>?_
 refine au 2 ?_
 refine bT hm fun m1 w hm=>?_
 refine aT hm fun m2 w hm=>?_
 refine au 9 ?_
 refine st hm 0 fun w hm=>?_
 refine au 4 ?_
 exact ⟨rfl,hm.to⟩
theorem G2(c:Pl.Cm)(p:Tg)(cap:Nat)(w0:World)(hk:Pl.vQ c)(hl:c.bs.length≤9223372036854775807):C Tryz.prog 117 [.agg ⟨fV c p c.bs.length cap⟩] w0 fun v w'=>v=.int .i64 (Pl.av c)∧Ext No w0 w':=by
 have dq:=hk.1
 have iB:=hk.2.1
 have hk3:=hk.2.2.1
 have hk4:=hk.2.2.2
 have bL:=Pl.sQ hk hl
 refine aH Tryz.func117 fun κ _ Je Jc hm=>?_
 refine au 2 ?_
 refine bT hm fun m1 w hm=>?_
 refine au 16 ?_
 refine cd (fun ai=>?_) fun ai=>?_
 ·
  simp only [bA,bB,bC,bD,bE,bF,dT,dF] at ai
  refine au 8 ?_
  exact ⟨LM (Value.int .i64) (by clear Je Jc hm; grind [Pl.av]),hm.to⟩
 ·
  simp only [bA,bB,bC,bD,bE,bF,dT,dF] at ai
  refine au 5 ?_
  refine cA rfl rfl rfl (G1 _ _ _ _) hm fun w hm=>aT hm fun m2 w hm=>?_
  refine st hm 0 fun w hm=>?_
  refine au 11 ?_
  refine cd (fun ao=>?_) fun ao=>?_
  ·
   simp only [bA,bB,bC,bD,bE,bF,dT,dF] at ao
   refine au 8 ?_
   exact ⟨LM (Value.int .i64) (by clear Je Jc hm; grind [Pl.av]),hm.to⟩
  ·
   simp only [bA,bB,bC,bD,bE,bF,dT,dF] at ao
   refine au 6 ?_
   refine cA rfl rfl rfl (Qw _ _ _ Ta Ta) hm fun w hm=>au 11 ?_
   refine cd (fun aD=>?_) fun aD=>?_
   ·
    simp only [bA,bB,bC,bD,bE,bF,dT,dF] at aD
    refine JT (.pure 0 (.pure 1 (.pure 2 (.pure 3 (.pure 4 (.pure 5 (.pure 6 (.pure 7 (.pure 8 (.pure 9 (.pure 10 (.pure 11 (.pure 12 (.act 13 (.pure 14 (.pure 15 .done)))))))))))))))) Te<|Ja rfl rfl (Jx rfl)<|Ja rfl rfl (Jx rfl)<|JK rfl rfl rfl (fun hc=>(Jv rfl fo60_4.h))<|JK rfl rfl rfl (fun hc=>(Jh (gx hc rfl) sc22.h (hm.nt 1 rfl) rfl))<|JK rfl rfl rfl (fun hc=>(gq (gx hc rfl) rfl sl22.h))<|JK rfl rfl rfl (fun hc=>(V3 (gx hc rfl) rfl))<|Ja rfl rfl (kU rfl rfl rfl)<|Ja rfl rfl (Jx rfl)<|JK rfl rfl rfl (fun hc=>(Jv rfl fo60_2.h))<|JK rfl rfl rfl (fun hc=>(Jh (gx hc rfl) sc3.h (hm.nt 1 rfl) rfl))<|JK rfl rfl rfl (fun hc=>(Jv rfl fo60_3.h))<|JK rfl rfl rfl (fun hc=>(Jh (gx hc rfl) sc3.h (hm.nt 1 rfl) rfl))<|JK rfl rfl rfl (fun hc=>(Qe (cs:=[_,_]) z32.h ft32.h rfl rfl (J8 (gx hc rfl) (J8 (gx hc rfl) QL)) rfl rfl))<|J1 rfl rfl rfl (fun hc=>(J8 (gx hc rfl) QL)) go34 (fun hc=>(Qw _ _ _ Ta Ta)) trivial fun w hE hh=>?_
    replace hm:=hm.ext hE
    refine au 11 ?_
    refine cd (fun bg=>?_) fun bg=>?_
    ·
     simp only [bA,bB,bC,bD,bE,bF,dT,dF] at bg
     refine au 8 ?_
     exact ⟨LM (Value.int .i64) (by clear Je Jc hm; grind [Pl.av]),hm.to⟩
    ·
     simp only [bA,bB,bC,bD,bE,bF,dT,dF] at bg
     refine au 9 ?_
     exact ⟨LM (Value.int .i64) (by clear Je Jc hm; grind [Pl.av]),hm.to⟩
   ·
    simp only [bA,bB,bC,bD,bE,bF,dT,dF] at aD
    refine JT (.pure 0 (.pure 1 (.pure 2 (.pure 3 (.pure 4 (.pure 5 (.pure 6 (.pure 7 (.pure 8 (.pure 9 (.pure 10 (.pure 11 .done)))))))))))) Te<|Ja rfl rfl (Jx rfl)<|Ja rfl rfl (Jx rfl)<|JK rfl rfl rfl (fun hc=>(Jv rfl fo60_2.h))<|JK rfl rfl rfl (fun hc=>(Jh (gx hc rfl) sc3.h (hm.nt 1 rfl) rfl))<|JK rfl rfl rfl (fun hc=>(V3 (gx hc rfl) rfl))<|Ja rfl rfl (kU rfl rfl rfl)<|Ja rfl rfl (Jx rfl)<|JK rfl rfl rfl (fun hc=>(Jv rfl fo60_3.h))<|JK rfl rfl rfl (fun hc=>(Jh (gx hc rfl) sc3.h (hm.nt 1 rfl) rfl))<|JK rfl rfl rfl (fun hc=>(V3 (gx hc rfl) rfl))<|Ja rfl rfl (kU rfl rfl rfl)<|Ja rfl rfl (J4 rfl)<|Qc<|QV<|Qb rfl<|Qb rfl<|JT (.pure 0 (.pure 1 .done)) Te<|Ja rfl rfl (Jx rfl)<|Ja rfl rfl (kY rfl)<|Qc<|QV<|cd (fun bg=>?_) fun bg=>?_
    ·
     simp only [bA,bB,bC,bD,bE,bF,dT,dF] at bg
     refine au 8 ?_
     exact ⟨LM (Value.int .i64) (by clear Je Jc hm; grind [Pl.av]),hm.to⟩
    ·
     simp only [bA,bB,bC,bD,bE,bF,dT,dF] at bg
     refine au 9 ?_
     exact ⟨LM (Value.int .i64) (by clear Je Jc hm; grind [Pl.av]),hm.to⟩
theorem gT(c:Pl.Cm)(p:Tg)(cap:Nat)(w0:World)(hk:Pl.vQ c)(hl:c.bs.length≤9223372036854775807):C Tryz.prog 54 [.agg ⟨fV c p c.bs.length cap⟩] w0 fun v w'=>v=.int .i64 (Pl.av c)∧Ext No w0 w':=by
 have dq:=hk.1
 have iB:=hk.2.1
 have hk3:=hk.2.2.1
 have hk4:=hk.2.2.2
 have bL:=Pl.sQ hk hl
 refine aH Tryz.func54 fun κ _ Je Jc hm=>?_
 refine au 2 ?_
 refine bT hm fun m1 w hm=>?_
 refine au 16 ?_
 refine cd (fun ai=>?_) fun ai=>?_
 ·
  simp only [bA,bB,bC,bD,bE,bF,dT,dF] at ai
  refine au 8 ?_
  exact ⟨LM (Value.int .i64) (by clear Je Jc hm; grind [Pl.av]),hm.to⟩
 ·
  simp only [bA,bB,bC,bD,bE,bF,dT,dF] at ai
  refine au 6 ?_
  refine cA rfl rfl rfl (mX _ _ _ _) hm fun w hm=>au 3 ?_
  refine cd (fun ao=>?_) fun ao=>?_
  ·
   simp only [bA,bB,bC,bD,bE,bF,dT,dF] at ao
   refine au 8 ?_
   exact ⟨LM (Value.int .i64) (by clear Je Jc hm; grind [Pl.av]),hm.to⟩
  ·
   simp only [bA,bB,bC,bD,bE,bF,dT,dF] at ao
   refine au 6 ?_
   refine cA rfl rfl rfl (Y6 _ _ _ _) hm fun w hm=>cA rfl rfl rfl (mU _ _ _ Ta Ta) hm fun w hm=>au 3 ?_
   refine cd (fun aD=>?_) fun aD=>?_
   ·
    simp only [bA,bB,bC,bD,bE,bF,dT,dF] at aD
    refine au 8 ?_
    exact ⟨LM (Value.int .i64) (by clear Je Jc hm; grind [Pl.av]),hm.to⟩
   ·
    simp only [bA,bB,bC,bD,bE,bF,dT,dF] at aD
    refine au 11 ?_
    refine JK rfl rfl rfl (fun hc=>(gq (gx hc rfl) rfl sl22.h))<|au 2 ?_
    refine YD rfl rfl rfl (fun hc=>(Jm (s:=5) (vs:=[_,_,_,_,_]) rfl ag60.h (hm.nt 0 rfl) rfl))<|lj rfl rfl rfl (fun hc=>(J8 (gx hc rfl) QL)) go88 (fun hc=>(z' _ _ _ _)) trivial fun w hE hh=>?_
    replace hm:=hm.ext hE
    refine lj rfl rfl rfl (fun hc=>(J8 (gx hc rfl) QL)) go32 (fun hc=>(mU _ _ _ Ta Ta)) trivial fun w hE hh=>?_
    replace hm:=hm.ext hE
    refine YD rfl rfl rfl (fun hc=>(kY (gx hc rfl)))<|JK rfl rfl rfl (fun hc=>(sh (gx hc rfl) rfl (ZV hc rfl)))<|au 3 ?_
    refine cd (fun bg=>?_) fun bg=>?_
    ·
     simp only [bA,bB,bC,bD,bE,bF,dT,dF] at bg
     refine au 8 ?_
     exact ⟨LM (Value.int .i64) (by clear Je Jc hm; grind [Pl.av]),hm.to⟩
    ·
     simp only [bA,bB,bC,bD,bE,bF,dT,dF] at bg
     refine au 13 ?_
     refine YD rfl rfl rfl (fun hc=>(Jv rfl fo60_3.h))<|YD rfl rfl rfl (fun hc=>(Jh (gx hc rfl) sc3.h (hm.nt 0 rfl) rfl))<|YD rfl rfl rfl (fun hc=>(XD (gx hc rfl) rfl))<|JK rfl rfl rfl (fun hc=>(sh (gx hc rfl) rfl (ZV hc rfl)))<|au 3 ?_
     refine cd (fun jG=>?_) fun jG=>?_
     ·
      simp only [bA,bB,bC,bD,bE,bF,dT,dF] at jG
      refine au 8 ?_
      exact ⟨LM (Value.int .i64) (by clear Je Jc hm; grind [Pl.av]),hm.to⟩
     ·
      simp only [bA,bB,bC,bD,bE,bF,dT,dF] at jG
      refine au 9 ?_
      exact ⟨LM (Value.int .i64) (by clear Je Jc hm; grind [Pl.av]),hm.to⟩
theorem Yc(q:Tg)(cq:Nat)(ps:List SB)(w0:World)(hq:Rd w0 q (ps.flatMap encS))(iC:∀ s∈ps,Rd w0 s.p (s.bs.flatMap Jk))(hl:ps.length≤4611686018427387903)(hb:(ps.flatMap (·.bs)).length≤140737488355328):C Tryz.prog 45 [.slice q ps.length cq] w0 fun v w'=>∃ p n cap g b,v=.slice p n cap∧Acc 5 1 p n cap ((ps.flatMap (·.bs)).flatMap Jk) g b∧Mem w0 w' No [(g,b)]:=by
 refine aH Tryz.func45 fun κ _ Je Jc hm=>?_
 refine au 19 ?_
 refine Jg (ι:=Nat) rfl (ks:=[0,2,9,10]) Tn (fun k=>[(11,.int .i64 k),(3,.int .i64 (((ps.take k).flatMap (·.bs)).length:Nat))]) (fun k w=>Mem w0 w No []∧k≤ps.length) (fun k=>ps.length-k) 0 (⟨hm,LL _⟩) Tm (fun k w hM=>?_)
 obtain ⟨hm,hk⟩:=hM
 refine au 6 ?_
 refine cd (fun ai=>?_) fun ai=>?_
 ·
  simp only [dT] at ai
  obtain ⟨s,hi⟩:∃ y_,ps[k]?=some y_:=⟨_,La Ta⟩
  obtain ⟨qb,qo,rfl⟩:=hq.bS V7 Tb hi
  have fB:((((ps.take (k+1)).flatMap (·.bs)).length:Nat):Int)=(((ps.take k).flatMap (·.bs)).length:Nat)+s.bs.length:=by rw [LC,hi]; simp
  have aX:=Cd (·.bs) ps (k+1)
  refine au 7 ?_
  refine Ja rfl rfl (J3 rfl sc22.h (hq.Jj hm.to).nt V7 hi rfl)<|au 18 ?_
  refine Ye rfl rfl (LN Ta)<|au 7 ?_
  refine next (k+1) Ta ⟨hm,Ta⟩ ⟨nx k,by rw [fB]; rfl,Tm⟩
 ·
  simp only [dF] at ai
  obtain rfl:k=ps.length:=by omega
  obtain ⟨T,hT⟩:∃ T,(ps.flatMap (·.bs)).length=T:=⟨_,rfl⟩
  refine au 7 ?_
  refine Ja rfl rfl (cy (Jx rfl) (show _=Value.int .i64 (T:Nat) by rw [Lv,hT]))<|cT rfl rfl rfl (G0 T _ Ta) fun v w hR=>?_
  obtain ⟨aK,aj,aI,aF,rfl,ah,ae⟩:=hR
  replace hm:=hm.Jt ae
  refine au 12 ?_
  refine Jg (ι:=Nat×Ow) rfl (ks:=[2,25,26]) Tn (fun x=>[(27,.int .i64 x.1),(6,.slice x.2.p x.2.n x.2.cap)]) (fun x w=>Mem w0 w No [(x.2.g,x.2.b)]∧Acc 5 1 x.2.p x.2.n x.2.cap (((ps.take x.1).flatMap (·.bs)).flatMap Jk) x.2.g x.2.b∧x.1≤ps.length) (fun x=>ps.length-x.1) (0,⟨aK,_,aj,aI,aF⟩) (⟨hm,ah,LL _⟩) Tm (fun x w hM=>?_)
  obtain ⟨hm,ah,hk⟩:=hM
  refine au 6 ?_
  refine cd (fun aD=>?_) fun aD=>?_
  ·
   simp only [dT] at aD
   obtain ⟨s,hi⟩:∃ y_,ps[x.1]?=some y_:=⟨_,La Ta⟩
   obtain ⟨qb,qo,rfl⟩:=hq.bS V7 Tb hi
   have hn:=ah.J0
   have aX:=Cd (·.bs) ps (x.1+1)
   have fB:((ps.take (x.1+1)).flatMap (·.bs)).length=((ps.take x.1).flatMap (·.bs)).length+s.bs.length:=by rw [LC,hi]; simp
   refine au 7 ?_
   refine Ja rfl rfl (J3 rfl sc22.h (hq.Jj hm.to).nt V7 hi rfl)<|au 6 ?_
   refine Jy rfl rfl rfl rfl rfl rfl sl22.h sl22.h z5.h rfl (Zl s.bs) ((iC s (Ld hi)).Jj hm.to) (J0 s.bs) ah hm 0 rfl Ta Ta fun aK aj aI aF w ah hm=>au 8 ?_
   refine next (x.1+1,⟨aK,_,aj,aI,aF⟩) Td ⟨hm,ah.to ?_,Td⟩ ⟨nx x.1,Tm⟩
   simp only [LC,hi,Option.toList,Lh,Lk,LY,Lq]
  ·
   simp only [dF] at aD
   have b8:x.1=ps.length:=by omega
   rw [b8,Lv] at ah
   refine au 13 ?_
   exact ⟨_,_,_,_,_,rfl,ah,hm⟩
theorem Zg(a:Int)(q:Tg)(cq:Nat)(ps:List SB)(w0:World)(hq:Rd w0 q (ps.flatMap encS))(iC:∀ s∈ps,Rd w0 s.p (s.bs.flatMap Jk))(hl:ps.length≤4611686018427387903)(hb:(ps.flatMap (·.bs)).length≤140737488355328):C Tryz.prog 28 [.int .i64 a,.slice q ps.length cq] w0 fun v w'=>∃ p n cap g bb,v=.agg ⟨fV ⟨2,a,0,0,ps.flatMap (·.bs)⟩ p n cap⟩∧Acc 5 1 p n cap ((⟨2,a,0,0,ps.flatMap (·.bs)⟩:Pl.Cm).bs.flatMap Jk) g bb∧Mem w0 w' No [(g,bb)]:=by
 refine aH Tryz.func28 fun κ _ Je Jc hm=>?_
 refine au 2 ?_
 refine aT hm fun m1 w hm=>?_
 refine au 6 ?_
 refine cT rfl rfl rfl (Yc q cq ps _ (hq.Jj hm.to) (fun s hs=>(iC s hs).Jj hm.to) hl hb) fun v w hR=>?_
 obtain ⟨aK,dE,aj,aI,aF,rfl,ah,ae⟩:=hR
 replace hm:=hm.Jt ae
 refine au 1 ?_
 refine st hm 1 fun w hm=>?_
 refine au 4 ?_
 exact ⟨_,_,_,_,_,rfl,ah,(hm.pick [0] rfl)⟩
theorem Ko(a b c e:Int)(w0:World)(h1:Pl.aA (a+b))(h2:Pl.aA (c+e)):C Tryz.prog 303 [.agg ⟨[.int .i64 a,.int .i64 b]⟩,.agg ⟨[.int .i64 c,.int .i64 e]⟩] w0 fun v w'=>v=.bool (decide (0<e)&&Pl.within a b c e)∧Ext No w0 w':=by
 refine aH Tryz.func303 fun κ _ Je Jc hm=>?_
 refine au 2 ?_
 refine bT hm fun m1 w hm=>?_
 refine bT hm fun m2 w hm=>?_
 refine au 4 ?_
 by_cases he:0<e
 ·
  refine au 3 ?_
  refine Ja rfl rfl (JA (c:=true) (XE rfl rfl) (by simpa using he))<|au 4 ?_
  refine Jb (l:=[_,_]) rfl rfl sl240.h z32.h rfl rfl rfl rfl rfl rfl rfl hm trivial fun m3 w dX hm hh=>cA rfl rfl rfl (ext_contains a b _ 1 [(c,e)] _ h1 (Rd.JL (hm.get (k:=0) rfl)) Tc (by simp only [Lf]; rintro _ rfl; exact h2)) hm fun w hm=>au 6 ?_
  exact ⟨by simp [he],hm.to⟩
 ·
  refine au 3 ?_
  refine Ja rfl rfl (JA (c:=false) (XE rfl rfl) (by simpa using he))<|au 12 ?_
  exact ⟨by simp [he],hm.to⟩
theorem i'(c:Pl.Cm)(p:Tg)(cap:Nat)(a b:Int)(w0:World)(hc:Pl.av c=0)(hr:Rd w0 p (c.bs.flatMap Jk))(hle:c.bs.length≤cap)(cU:cap≠0→∀ ad,p=some ad→ad.spot=none)(hl:c.bs.length≤140737488355328)(he:0≤a∧0≤b∧a+b≤4611686018427387903):C Tryz.prog 284 [.agg ⟨fV c p c.bs.length cap⟩,.agg ⟨[.int .i64 a,.int .i64 b]⟩] w0 fun v w'=>∃ p n cap g bb,v=.tuple ⟨[.agg ⟨fV (Pl.Qu c a b) p n cap⟩,.bool (Pl.jt c a b).isSome]⟩∧Acc 5 1 p n cap ((Pl.Qu c a b).bs.flatMap Jk) g bb∧Mem w0 w' No [(g,bb)]:=by
 have hk:=Pl.Jl hc
 refine aH Tryz.func284 fun κ _ Je Jc hm=>?_
 refine au 2 ?_
 refine bT hm fun m1 w hm=>?_
 refine bT hm fun m2 w hm=>?_
 refine aT hm fun m3 w hm=>?_
 refine au 4 ?_
 refine JS (.pure 0 (.pure 2 (.act2 1 (.pure 3 (.act 4 (.cut (.act 5 .done)))) 4 (.act 1 (.pure 3 (.cut (.act 5 .done))))))) No fP Te hm fun w hw ar hh=>?_
 have hm:=ar
 refine au 2 ?_
 refine QN ?_ ?_
 ·
  refine cB rfl rfl rfl (G1 _ _ _ _) hm hh fun w hm hh=>au 1 ?_
  refine al hm hh fun m4 w mV hm hh=>?_
  refine au 1 ?_
  refine st hm 0 fun w hm=>?_
  refine au 8 ?_
  refine cA rfl rfl rfl (Ko _ _ _ _ _ Ta Ta) hm fun w hm=>au 3 ?_
  refine cd (fun ai=>?_) fun ai=>?_
  ·
   have cz:¬ (0<b∧c.to≤a∧a+b≤c.to+Pl.aw c):=by simp [Pl.within] at ai; omega
   have jU:Pl.jt c a b=none:=Pl.lN cz
   have tU:Pl.Qu c a b=Pl.Gk:=by unfold Pl.Qu; rw [jU]; rfl
   refine au 3 ?_
   refine st hm 1 fun w hm=>?_
   refine au 6 ?_
   exact ⟨none,0,0,0,.gap,by rw [tU,jU]; rfl,by rw [tU]; exact .nil _ _ _ _,(hm.drop (List.nil_sublist _)).JP⟩
  ·
   have cR:0<b∧c.to≤a∧a+b≤c.to+Pl.aw c:=by simp [Pl.within] at ai; omega
   have jU:=Pl.XA cR
   refine au 20 ?_
   refine cd (fun ao=>?_) fun ao=>?_
   ·
    simp only [dT] at ao
    rw [LI ao] at jU
    have tU:Pl.Qu c a b=⟨1,a,c.fr+(a-c.to),b,[]⟩:=by unfold Pl.Qu; rw [jU]; rfl
    refine au 10 ?_
    refine cA rfl rfl rfl (wI _ _ _ _) hm fun w hm=>st hm 1 fun w hm=>?_
    refine au 6 ?_
    exact ⟨none,0,0,0,.gap,by rw [tU,jU]; rfl,by rw [tU]; exact .nil _ _ _ _,(hm.drop (List.nil_sublist _)).JP⟩
   ·
    simp only [dF] at ao
    rw [LH ao] at jU
    have tU:Pl.Qu c a b=⟨2,a,0,0,(c.bs.drop (a-c.to).toNat).take b.toNat⟩:=by unfold Pl.Qu; rw [jU]; rfl
    have bL:((c.bs.drop (a-c.to).toNat).take b.toNat).length=b.toNat:=by rw [Lg,Lm]; omega
    have ef:=hr.sub (l:=(a-c.to).toNat) (m:=b.toNat) hle
    refine au 3 ?_
    refine dw [0,3,6,9,12,15,18,21,24,27,31,2,34,37,39] hm fun w hw ar hh hm=>?_
    refine au 9 ?_
    refine Ja rfl rfl (cy (JE (ln:=(a-c.to).toNat) (hn:=((a-c.to).toNat+b.toNat)) rfl sl22.h ⟨_,LM (fun x=>some (Value.int .i64 x)) Ta⟩ ⟨_,LM (fun x=>some (Value.int .i64 x)) Ta⟩ Ta Ta (fun h=>cU Ta)) (show _=Value.slice (bP p cap (a-c.to).toNat 1) ((c.bs.drop (a-c.to).toNat).take b.toNat).length (cap-(a-c.to).toNat) by rw [bL,Kk]))<|Jb (l:=[_]) rfl rfl sl88.h z22.h rfl rfl rfl rfl rfl rfl rfl hm hh fun m5 w fQ hm hh=>au 1 ?_
    refine cT rfl rfl rfl (Zg a _ 1 [⟨bP p cap (a-c.to).toNat 1,cap-(a-c.to).toNat,(c.bs.drop (a-c.to).toNat).take b.toNat⟩] _ (Rd.JL (hm.get (k:=0) rfl)) (by simp only [Lf]; rintro _ rfl; exact ef.Jj hm.to) Tc (by simp only [Lk,LY,Lq]; omega)) fun v w hR=>?_
    obtain ⟨aK,dE,aj,aI,aF,rfl,ah,ae⟩:=hR
    replace hm:=hm.Jt ae
    refine st hm 3 fun w hm=>?_
    refine au 5 ?_
    exact ⟨_,_,_,_,_,by rw [tU,jU]; simp only [Lk,LY,Lq] at *; rfl,by rw [tU]; simpa using ah,(hm.pick [0] rfl)⟩
 ·
  refine al hm hh fun m4 w mV hm hh=>?_
  refine cB rfl rfl rfl (G1 _ _ _ _) hm hh fun w hm hh=>au 2 ?_
  refine st hm 0 fun w hm=>?_
  refine au 8 ?_
  refine cA rfl rfl rfl (Ko _ _ _ _ _ Ta Ta) hm fun w hm=>au 3 ?_
  refine cd (fun ai=>?_) fun ai=>?_
  ·
   have cz:¬ (0<b∧c.to≤a∧a+b≤c.to+Pl.aw c):=by simp [Pl.within] at ai; omega
   have jU:Pl.jt c a b=none:=Pl.lN cz
   have tU:Pl.Qu c a b=Pl.Gk:=by unfold Pl.Qu; rw [jU]; rfl
   refine au 3 ?_
   refine st hm 1 fun w hm=>?_
   refine au 6 ?_
   exact ⟨none,0,0,0,.gap,by rw [tU,jU]; rfl,by rw [tU]; exact .nil _ _ _ _,(hm.drop (List.nil_sublist _)).JP⟩
  ·
   have cR:0<b∧c.to≤a∧a+b≤c.to+Pl.aw c:=by simp [Pl.within] at ai; omega
   have jU:=Pl.XA cR
   refine au 20 ?_
   refine cd (fun ao=>?_) fun ao=>?_
   ·
    simp only [dT] at ao
    rw [LI ao] at jU
    have tU:Pl.Qu c a b=⟨1,a,c.fr+(a-c.to),b,[]⟩:=by unfold Pl.Qu; rw [jU]; rfl
    refine au 10 ?_
    refine cA rfl rfl rfl (wI _ _ _ _) hm fun w hm=>st hm 1 fun w hm=>?_
    refine au 6 ?_
    exact ⟨none,0,0,0,.gap,by rw [tU,jU]; rfl,by rw [tU]; exact .nil _ _ _ _,(hm.drop (List.nil_sublist _)).JP⟩
   ·
    simp only [dF] at ao
    rw [LH ao] at jU
    have tU:Pl.Qu c a b=⟨2,a,0,0,(c.bs.drop (a-c.to).toNat).take b.toNat⟩:=by unfold Pl.Qu; rw [jU]; rfl
    have bL:((c.bs.drop (a-c.to).toNat).take b.toNat).length=b.toNat:=by rw [Lg,Lm]; omega
    have ef:=hr.sub (l:=(a-c.to).toNat) (m:=b.toNat) hle
    refine au 3 ?_
    refine dw [0,3,6,9,12,15,18,21,24,27,31,2,34,37,39] hm fun w hw ar hh hm=>?_
    refine au 9 ?_
    refine Ja rfl rfl (cy (JE (ln:=(a-c.to).toNat) (hn:=((a-c.to).toNat+b.toNat)) rfl sl22.h ⟨_,LM (fun x=>some (Value.int .i64 x)) Ta⟩ ⟨_,LM (fun x=>some (Value.int .i64 x)) Ta⟩ Ta Ta (fun h=>cU Ta)) (show _=Value.slice (bP p cap (a-c.to).toNat 1) ((c.bs.drop (a-c.to).toNat).take b.toNat).length (cap-(a-c.to).toNat) by rw [bL,Kk]))<|Jb (l:=[_]) rfl rfl sl88.h z22.h rfl rfl rfl rfl rfl rfl rfl hm hh fun m5 w fQ hm hh=>au 1 ?_
    refine cT rfl rfl rfl (Zg a _ 1 [⟨bP p cap (a-c.to).toNat 1,cap-(a-c.to).toNat,(c.bs.drop (a-c.to).toNat).take b.toNat⟩] _ (Rd.JL (hm.get (k:=0) rfl)) (by simp only [Lf]; rintro _ rfl; exact ef.Jj hm.to) Tc (by simp only [Lk,LY,Lq]; omega)) fun v w hR=>?_
    obtain ⟨aK,dE,aj,aI,aF,rfl,ah,ae⟩:=hR
    replace hm:=hm.Jt ae
    refine st hm 3 fun w hm=>?_
    refine au 5 ?_
    exact ⟨_,_,_,_,_,by rw [tU,jU]; simp only [Lk,LY,Lq] at *; rfl,by rw [tU]; simpa using ah,(hm.pick [0] rfl)⟩
theorem qZ(c:Pl.Cm)(p:Tg)(cap:Nat)(w0:World)(hr:Rd w0 p (c.bs.flatMap Jk))(hl:c.bs.length≤140737488355328):C Tryz.prog 39 [.agg ⟨fV c p c.bs.length cap⟩] w0 fun v w'=>∃ p n cap g bb,v=.agg ⟨fV c p n cap⟩∧Acc 5 1 p n cap (c.bs.flatMap Jk) g bb∧Mem w0 w' No [(g,bb)]:=by
 refine aH Tryz.func39 fun κ _ Je Jc hm=>?_
 refine au 2 ?_
 refine bT hm fun m1 w hm=>?_
 refine aT hm fun m2 w hm=>?_
 refine au 6 ?_
 refine cT rfl rfl rfl (V0 p cap c.bs _ (hr.Jj hm.to) Ta) fun v w hR=>?_
 obtain ⟨aK,aj,aI,aF,rfl,ah,ae⟩:=hR
 have q6:aF.real=true→_:=fun hr=>(ae.fresh _ Lo hr).resolve_left id
 replace hm:=hm.Jt ae
 refine au 1 ?_
 refine st hm 2 fun w hm=>?_
 refine au 5 ?_
 refine st hm 1 fun w hm=>?_
 refine au 4 ?_
 exact ⟨_,_,_,_,_,rfl,ah,(hm.pick [0] rfl)⟩
theorem wJ(c:Pl.Cm)(p:Tg)(cap:Nat)(w0:World)(hc:Pl.av c=0):C Tryz.prog 302 [.agg ⟨fV c p c.bs.length cap⟩] w0 fun v w'=>v=.bool (Pl.qx c)∧Ext No w0 w':=by
 have hk:=Pl.Jl hc
 refine aH Tryz.func302 fun κ _ Je Jc hm=>?_
 refine au 2 ?_
 refine bT hm fun m1 w hm=>?_
 refine au 6 ?_
 refine cA rfl rfl rfl (VI _ _ _ _) hm fun w hm=>au 3 ?_
 refine aT hm fun m2 w hm=>?_
 refine st hm 0 fun w hm=>?_
 refine au 10 ?_
 refine cd (fun ai=>?_) fun ai=>?_
 ·
  have dq:¬ c.k=1:=by simpa using ai
  refine au 8 ?_
  exact ⟨by simp [Pl.qx,dq],hm.to⟩
 ·
  have dq:c.k=1:=by simpa using ai
  have oq:Pl.br c=(c.fr,c.ln):=by simp [Pl.br,dq]
  refine au 3 ?_
  refine JS (.pure 0 (.pure 1 (.act2 2 (.act2 3 (.pure 4 (.pure 5 (.pure 6 (.act 7 (.cut (.act 8 (.pure 9 .done))))))) 7 (.act 3 (.pure 4 (.pure 5 (.pure 6 (.cut (.act 8 (.pure 9 .done)))))))) 7 (.act 2 (.act 3 (.pure 4 (.pure 5 (.pure 6 (.cut (.act 8 (.pure 9 .done))))))))))) No fP Te hm fun w hw ar hh=>?_
  have hm:=ar
  refine au 2 ?_
  refine QN ?_ ?_
  ·
   refine cB rfl rfl rfl (Vd _ _ _ _) hm hh fun w hm hh=>QN ?_ ?_
   ·
    refine cB rfl rfl rfl (C.eqv (Q7 c.fr c.ln c.to (Pl.aw c) _ Ta Ta) (by rw [oq])) hm hh fun w hm hh=>au 3 ?_
    refine al hm hh fun m3 w dX hm hh=>?_
    refine au 1 ?_
    refine st hm 0 fun w hm=>?_
    refine au 11 ?_
    exact ⟨by
     have e:Pl.aw c=c.ln:=by simp [Pl.aw,dq]
     simp [Pl.qx,dq,e],hm.to⟩
   ·
    refine al hm hh fun m3 w dX hm hh=>?_
    refine cB rfl rfl rfl (C.eqv (Q7 c.fr c.ln c.to (Pl.aw c) _ Ta Ta) (by rw [oq])) hm hh fun w hm hh=>au 4 ?_
    refine st hm 0 fun w hm=>?_
    refine au 11 ?_
    exact ⟨by
     have e:Pl.aw c=c.ln:=by simp [Pl.aw,dq]
     simp [Pl.qx,dq,e],hm.to⟩
  ·
   refine al hm hh fun m3 w dX hm hh=>?_
   refine cB rfl rfl rfl (Vd _ _ _ _) hm hh fun w hm hh=>cB rfl rfl rfl (C.eqv (Q7 c.fr c.ln c.to (Pl.aw c) _ Ta Ta) (by rw [oq])) hm hh fun w hm hh=>au 4 ?_
   refine st hm 0 fun w hm=>?_
   refine au 11 ?_
   exact ⟨by
    have e:Pl.aw c=c.ln:=by simp [Pl.aw,dq]
    simp [Pl.qx,dq,e],hm.to⟩
end Go.Proofs.YtaehgpeenaomcaaGreat
