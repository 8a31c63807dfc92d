/- Part 5 of the proof of TopShapes: PlQ AuA Fcs Ext Byt CmdB. Conditions: the hypotheses of each theorem. -/
import Derived.Test.YtaehgpeenaomcaaGreatY03
import Derived.Test.YtaehgpeenaomcaaGreatChecked
set_option maxRecDepth 10000
set_option maxHeartbeats 4000000
set_option linter.unusedVariables false
set_option linter.unusedSimpArgs false
namespace Go.Pl
theorem zero_mg'(k:Nat)(hk:1≤k):(rexpect ((List.replicate k (0:UInt8)).take 40) ⟨0,0,0⟩ magic 19).2=false:=by
 rw [List.take_replicate]
 obtain ⟨m,hm⟩:∃ m,min 40 k=m+1:=⟨min 40 k-1,by omega⟩
 rw [hm]
 unfold rexpect
 rw [LH (by decide),LI]
 intro h
 rw [List.length_replicate,show min magic.length (m+1-(⟨0,0,0⟩:RS).at_)=min 3 m+1 by show min 4 (m+1-0)=_; omega] at h
 have h9:=LM List.head? h
 simp [List.replicate_succ,magic] at h9
theorem rdec_zero(k:Nat)(hk:1≤k):rdec (List.replicate k (0:UInt8))=none:=by
 unfold rdec rd5
 simp only
 rw [LI (.inl (zero_mg' k hk))]
theorem jrec_zero{E:Dv}{f N i:Nat}(hk:okDv E)(hd:E.dn=false)(hN:1≤N)(h2:f+2*N≤E.cnt)(hi:i<2)(hz:∀ j,jat E f N i≤j→j<jat E f N i+N*E.sz→(contents E)[j]?=some 0):jrec E f N i=none:=by
 have h1:=jat_le h2 hi
 have hcl:=Xh hk
 have hNs:1≤N*E.sz:=Nat.mul_pos hN hk.sz
 unfold jrec
 have hb:rdB E ((jat E f N i:Nat):Int) ((N*E.sz:Nat):Int)=List.replicate (N*E.sz) 0:=by
  unfold rdB
  rw [LI (jcode hk hd h2 hi),LD,LD]
  apply Kb
  intro j
  rw [LF,List.getElem?_replicate,Kc]
  by_cases hj:j<N*E.sz
  · rw [LI hj,LI hj]; exact hz _ (by omega) (by omega)
  · rw [LH hj,LH hj]
 rw [hb]
 exact rdec_zero _ hNs
theorem jat_two{D:Dv}{f N i:Nat}(hi:i<2):jat D f N i=f*D.sz+i*(N*D.sz):=by
 unfold jat
 rw [Kh,Nat.mul_assoc]
def QX(D:Dv)(f N i:Nat):Option Rc→Prop
 | some r=>okRc r∧rright r=true∧(renc r).length≤N*D.sz∧∀ j,j<(renc r).length→D.dk[jat D f N i+j]?=(renc r)[j]?
 | none=>∀ j,j<N*D.sz→D.dk[jat D f N i+j]?=some 0
theorem jrec_slot{D:Dv}{f N i:Nat}{o:Option Rc}(hk:okDv D)(hd:D.dn=false)(hca:D.ca=[])(hN:1≤N)(h2:f+2*N≤D.cnt)(hi:i<2)(h:QX D f N i o):jrec D f N i=o:=by
 have e2:contents D=D.dk:=by unfold contents; rw [hca]; rfl
 have h1:=jat_le h2 hi
 have hl:=hk.len
 cases o with
 | none=>
  refine jrec_zero hk hd hN h2 hi fun j h3 h4=>?_
  rw [e2]
  have:=h (j-jat D f N i) (by omega)
  rwa [show jat D f N i+(j-jat D f N i)=j by omega] at this
 | some r=>
  obtain ⟨h3,h4,h5,h6⟩:=h
  unfold jrec rdB
  rw [LI (jcode hk hd h2 hi),LD,LD,e2]
  have e3:((D.dk.drop (jat D f N i)).take (N*D.sz))=renc r++((D.dk.drop (jat D f N i)).take (N*D.sz)).drop (renc r).length:=by
   conv=>lhs; rw [← Ke (renc r).length ((D.dk.drop (jat D f N i)).take (N*D.sz))]
   congr 1
   apply Kb
   intro j
   rw [LF]
   by_cases hj:j<(renc r).length
   · rw [LI hj,LF,LI (by omega),Kc]; exact h6 j hj
   · rw [LH hj,L8 (by omega)]
  rw [e3]
  exact rdec_renc h3 h4 _
theorem QX.eq{D E:Dv}{f N i:Nat}{o:Option Rc}(hdk:E.dk=D.dk)(hsz:E.sz=D.sz)(h:QX D f N i o):QX E f N i o:=by
 have hat:jat E f N i=jat D f N i:=by unfold jat; rw [hsz]
 cases o with
 | none=>intro j hj; rw [hdk,hat]; exact h j (by rw [← hsz]; exact hj)
 | some r=>
  obtain ⟨h1,h2,h3,h4⟩:=h
  exact ⟨h1,h2,by rw [hsz]; exact h3,fun j hj=>by rw [hdk,hat]; exact h4 j hj⟩
theorem QX.keep{D E:Dv}{f N i q:Nat}{o:Option Rc}{L:Nat}(hsz:E.sz=D.sz)(hi:i<2)(hq:q<2)(hne:i≠q)(hL:L≤N*D.sz)(hdk:∀ j,¬ (jat D f N q≤j∧j<jat D f N q+L)→E.dk[j]?=D.dk[j]?)(h:QX D f N i o):QX E f N i o:=by
 have hat:jat E f N i=jat D f N i:=by unfold jat; rw [hsz]
 have a1:=jat_two (D:=D) (f:=f) (N:=N) hi
 have a2:=jat_two (D:=D) (f:=f) (N:=N) hq
 have out:∀ j,j<N*D.sz→¬ (jat D f N q≤jat D f N i+j∧jat D f N i+j<jat D f N q+L):=fun j hj=>by
  rw [a1,a2]
  rcases (show (i=0∧q=1)∨(i=1∧q=0) by omega) with ⟨rfl,rfl⟩ | ⟨rfl,rfl⟩ <;> simp only [Nat.zero_mul,Nat.one_mul] <;> omega
 cases o with
 | none=>intro j hj; rw [hsz] at hj; rw [hat,hdk _ (out j hj)]; exact h j hj
 | some r=>
  obtain ⟨h1,h2,h3,h4⟩:=h
  exact ⟨h1,h2,by rw [hsz]; exact h3,fun j hj=>by rw [hat,hdk _ (out j (by omega))]; exact h4 j hj⟩
theorem open_two{D:Dv}{f N:Nat}{k:Int}{a c:Rc}(h0:jrec D f N 0=some a)(h1:jrec D f N 1=some c)(ha:a.id=k)(hc:c.id=k)(h:a.sq<c.sq):jopen D f N k=⟨IntKind.u64.wrap (max a.sq c.sq+1),true,c⟩:=by
 have e:jrecs D f N=[a,c]:=by unfold jrecs; rw [h0,h1]; rfl
 unfold jopen jof
 rw [e,List.filter_cons_of_pos (by simpa using ha),List.filter_cons_of_pos (by simpa using hc),List.filter_nil]
 have e2:bestC [a,c]=c:=LI h
 rw [e2]
 rfl
end Go.Pl
namespace Go.Cx
open Go
theorem bA(a b:Bool):((a&&b)=true)=(a=true∧b=true):=LJ a b
theorem bB(a b:Bool):((a||b)=true)=(a=true∨b=true):=Bool.or_eq_true a b
theorem bC{a b:Bool}:(a&&b)=false↔a=false∨b=false:=Bool.and_eq_false_iff
theorem bD{a b:Bool}:(a||b)=false↔a=false∧b=false:=LS
theorem bE(a:Bool):((!a)=true)=(a=false):=Bool.not_eq_true' a
theorem bF(a:Bool):((!a)=false)=(a=true):=Bool.not_eq_false' a
theorem dT{p:Prop}[Decidable p]:(decide p=true)=p:=LO
theorem dF{p:Prop}{_:Decidable p}:decide p=false↔¬p:=decide_eq_false_iff_not
structure AU(K:Prop)(n:Nat)(G:Prop):Prop where
  h:K→G
class FO(P:Program)(s i:Nat)(o:outParam Nat):Prop where h:fldO P s i=some o
class SC(P:Program)(t:Nat):Prop where h:scal P t=true
class AG(P:Program)(t:Nat)(s:outParam Nat):Prop where h:aggS P t=some s
class SL(P:Program)(t:Nat)(e:outParam (TypeId×Nat×Nat)):Prop where h:QH P t=some e
class ZE(P:Program)(t:Nat)(z:outParam (List Value)):Prop where h:zer P t=some z
class FT(P:Program)(t:Nat)(f:outParam (List (Nat×Nat))):Prop where h:fldT P t=some f
class PB(P:Program)(t:Nat):Prop where h:ptrB P t=true
class At(L:List (Nat×Blk))(m:Nat)(b:outParam Blk):Prop where h:(m,b)∈L
section
variable {L M:List (Nat×Blk)}{m:Nat}{b:Blk}
instance At.here:At ((m,b)::L) m b:=⟨Lo ..⟩
instance At.next{x:Nat×Blk}[h:At L m b]:At (x::L) m b:=⟨LX _ h.h⟩
instance At.left [h:At L m b]:At (L++M) m b:=⟨Lw _ h.h⟩
instance At.right [h:At M m b]:At (L++M) m b:=⟨Ly _ h.h⟩
theorem Mem.ft{w0 w:World}{X:Bs}(h:Mem w0 w X L)[ha:At L m b](hr:b.real=true:=by rfl):∀ u,Near none w u→u.heap[m]?=some b.Jd:=fun u hu=>by cases hu; exact h.own _ ha.h hr
theorem Mem.fd{w0 w b':World}{X:Bs}(h:Mem w0 b' X L)[ha:At L m b](hr:b.real=true:=by rfl):∀ u,Near (some (b',No)) w u→u.heap[m]?=some b.Jd:=fun _ hu=>
  (Ext.same hu m (h.lt (p:=(m,b)) ha.h hr) id).trans (h.own _ ha.h hr)
end
structure YS(P:Program)(md:Md)(w:World)(n:Nat)(D:List Deferred)(S:List (Nat×Value))(o:Oper)(v:Value):Prop where
  h:∀ a,Fr a n D S→Yl P md w a o v
section
variable {P:Program}{md:Md}{n:Nat}{D:List Deferred}{S:List (Nat×Value)}{w:World}{dst:Option Tmp}{ty:TypeId}{pos:String}{af:Array Edge}{g:Option (Nat×Bool)}{t yt:TypeId}{x y:Operand}{v:Value}{k:IntKind}{i j z:Int}{b d:Bool}
theorem s_move(hx:ev S x=some v):YS P md w n D S ⟨dst,.move x,ty,pos,af,g⟩ v:=⟨Jx hx⟩
theorem s_assign(hx:ev S x=some v):YS P md w n D S ⟨dst,.assign x,ty,pos,af,g⟩ v:=⟨J4 hx⟩
theorem s_fa{s fi m off fo:Nat}(hx:ev S x=some (.pointer (some ⟨m,off,none⟩)))[h:FO P s fi fo]:YS P md w n D S ⟨dst,.fieldAddr s x fi,ty,pos,af,g⟩ (.pointer (some ⟨m,off+fo,none⟩)):=⟨Jv hx h.h⟩
theorem s_ldT{e:TypeId}{m off:Nat}{l:List Value}{w0:World}{X:Bs}{L:List (Nat×Blk)}(hx:ev S x=some (.pointer (some ⟨m,off,none⟩)))[h:SC P t](hm:Mem w0 w X L)(ha:At L m (.row e l))(hv:nth l off=some v):YS P none w n D S ⟨dst,.load t x,ty,pos,af,g⟩ v:=⟨Jh hx h.h hm.ft hv⟩
theorem s_laT{e:TypeId}{m off s:Nat}{l vs:List Value}{w0:World}{X:Bs}{L:List (Nat×Blk)}(hx:ev S x=some (.pointer (some ⟨m,off,none⟩)))[h:AG P t s](hm:Mem w0 w X L)(ha:At L m (.row e l))(hv:nths l off s=some vs):YS P none w n D S ⟨dst,.load t x,ty,pos,af,g⟩ (.agg ⟨vs⟩):=⟨Jm hx h.h hm.ft hv⟩
theorem s_ldD{e:TypeId}{m off:Nat}{l:List Value}{w0 b':World}{X:Bs}{L:List (Nat×Blk)}(hx:ev S x=some (.pointer (some ⟨m,off,none⟩)))[h:SC P t](hm:Mem w0 b' X L)(ha:At L m (.row e l))(hv:nth l off=some v):YS P (some (b',No)) w n D S ⟨dst,.load t x,ty,pos,af,g⟩ v:=⟨Jh hx h.h hm.fd hv⟩
theorem s_laD{e:TypeId}{m off s:Nat}{l vs:List Value}{w0 b':World}{X:Bs}{L:List (Nat×Blk)}(hx:ev S x=some (.pointer (some ⟨m,off,none⟩)))[h:AG P t s](hm:Mem w0 b' X L)(ha:At L m (.row e l))(hv:nths l off s=some vs):YS P (some (b',No)) w n D S ⟨dst,.load t x,ty,pos,af,g⟩ (.agg ⟨vs⟩):=⟨Jm hx h.h hm.fd hv⟩
theorem s_pnil{p:Option Addr}(hx:ev S x=some (.pointer p))(hy:ev S y=some (.pointer none))[h:PB P t]:YS P md w n D S ⟨dst,.binOp .eql t x y yt,ty,pos,af,g⟩ (.bool p.isNone):=⟨y_pnil hx hy h.h⟩
theorem s_mul(hx:ev S x=some (.int k i))(hy:ev S y=some (.int k j))(hz:k.wrap (i*j)=z):YS P md w n D S ⟨dst,.binOp .mul t x y yt,ty,pos,af,g⟩ (.int k z):=⟨Vy hx hy hz⟩
theorem s_lxT{e:TypeId}{m off:Nat}{l:List Value}{w0:World}{L:List (Nat×Blk)}(hx:ev S x=some (.pointer (some ⟨m,off,none⟩)))[h:SC P t](hm:Mem w0 w No L)(hr:w0.heap[m]?=some (Blk.row e l).Jd)(hv:nth l off=some v):YS P none w n D S ⟨dst,.load t x,ty,pos,af,g⟩ v:=⟨Jh hx h.h (fun u hu=>by cases hu; exact (hm.to.same _ (Lb.1 hr).1 id).trans hr) hv⟩
theorem s_lxD{e:TypeId}{m off:Nat}{l:List Value}{w0 b':World}{L:List (Nat×Blk)}(hx:ev S x=some (.pointer (some ⟨m,off,none⟩)))[h:SC P t](hm:Mem w0 b' No L)(hr:w0.heap[m]?=some (Blk.row e l).Jd)(hv:nth l off=some v):YS P (some (b',No)) w n D S ⟨dst,.load t x,ty,pos,af,g⟩ v:=⟨Jh hx h.h (fun u hu=>((hm.to.trans hu).same _ (Lb.1 hr).1 id).trans hr) hv⟩
theorem s_nil{ad:Addr}(hx:ev S x=some (.pointer (some ad))):YS P md w n D S ⟨dst,.nilCheck x,ty,pos,af,g⟩ (.pointer (some ad)):=⟨y_nil hx⟩
theorem s_extract{vs:Array Value}{i:Nat}(hx:ev S x=some (.tuple vs))(hv:vs[i]?=some v):YS P md w n D S ⟨dst,.extract x i,ty,pos,af,g⟩ v:=⟨J7 hx hv⟩
theorem s_add(hx:ev S x=some (.int k i))(hy:ev S y=some (.int k j))(hz:k.wrap (i+j)=z):YS P md w n D S ⟨dst,.binOp .add t x y yt,ty,pos,af,g⟩ (.int k z):=⟨J5 hx hy hz⟩
theorem s_sub(hx:ev S x=some (.int k i))(hy:ev S y=some (.int k j))(hz:k.wrap (i-j)=z):YS P md w n D S ⟨dst,.binOp .sub t x y yt,ty,pos,af,g⟩ (.int k z):=⟨QR hx hy hz⟩
theorem s_len{p:Option Addr}{l c:Nat}{e:TypeId×Nat×Nat}(hx:ev S x=some (.slice p l c))[h:SL P t e]:YS P md w n D S ⟨dst,.call ⟨.builtin .len,#[x],#[t]⟩,ty,pos,af,g⟩ (.int .i64 l):=⟨y_len hx rfl h.h⟩
theorem s_eq(hx:ev S x=some (.int k i))(hy:ev S y=some (.int k j)):YS P md w n D S ⟨dst,.binOp .eql t x y yt,ty,pos,af,g⟩ (.bool (decide (i=j))):=⟨V3 hx hy⟩
theorem s_ne(hx:ev S x=some (.int k i))(hy:ev S y=some (.int k j)):YS P md w n D S ⟨dst,.binOp .neq t x y yt,ty,pos,af,g⟩ (.bool (decide (i≠j))):=⟨XD hx hy⟩
theorem s_lt(hx:ev S x=some (.int k i))(hy:ev S y=some (.int k j)):YS P md w n D S ⟨dst,.binOp .lss t x y yt,ty,pos,af,g⟩ (.bool (decide (i<j))):=⟨VO hx hy⟩
theorem s_le(hx:ev S x=some (.int k i))(hy:ev S y=some (.int k j)):YS P md w n D S ⟨dst,.binOp .leq t x y yt,ty,pos,af,g⟩ (.bool (decide (i≤j))):=⟨y_le hx hy⟩
theorem s_gt(hx:ev S x=some (.int k i))(hy:ev S y=some (.int k j)):YS P md w n D S ⟨dst,.binOp .gtr t x y yt,ty,pos,af,g⟩ (.bool (decide (j<i))):=⟨XE hx hy⟩
theorem s_ge(hx:ev S x=some (.int k i))(hy:ev S y=some (.int k j)):YS P md w n D S ⟨dst,.binOp .geq t x y yt,ty,pos,af,g⟩ (.bool (decide (j≤i))):=⟨y_ge hx hy⟩
theorem s_min{ts:Array TypeId}(hx:ev S x=some (.int k i))(hy:ev S y=some (.int k j)):YS P md w n D S ⟨dst,.call ⟨.builtin .min,#[x,y],ts⟩,ty,pos,af,g⟩ (.int k (min i j)):=⟨y_min hx hy⟩
theorem s_max{ts:Array TypeId}(hx:ev S x=some (.int k i))(hy:ev S y=some (.int k j)):YS P md w n D S ⟨dst,.call ⟨.builtin .max,#[x,y],ts⟩,ty,pos,af,g⟩ (.int k (max i j)):=⟨y_max hx hy⟩
theorem s_not(hx:ev S x=some (.bool b)):YS P md w n D S ⟨dst,.unOp .not t x,ty,pos,af,g⟩ (.bool (!b)):=⟨y_not hx⟩
theorem s_build{ps:Array (Nat×Operand)}{xs:List Operand}{is:List Nat}{fs:List (Nat×Nat)}{vs cs z:List Value}[hz:ZE P t z][hfs:FT P t fs](hxs:ps.toList.map (·.2)=xs)(his:ps.toList.map (·.1)=is)(hx:evs S xs=some vs)(hok:okB fs z.length (is.zip vs)=true)(hcs:nths (blds fs z (is.zip vs)) 0 (blds fs z (is.zip vs)).length=some cs):YS P md w n D S ⟨dst,.build t ps,ty,pos,af,g⟩ (.agg ⟨cs⟩):=⟨Qe hz.h hfs.h hxs his hx hok hcs⟩
theorem s_and{c:Operand}(hc:ev S c=some (.bool b))(hx:ev S x=some (gv b true (.bool d)))(hy:ev S y=some (.bool false)):YS P md w n D S ⟨dst,.pick c x y,ty,pos,af,g⟩ (.bool (b&&d)):=⟨y_and hc hx hy⟩
theorem s_or{c:Operand}(hc:ev S c=some (.bool b))(hx:ev S x=some (.bool true))(hy:ev S y=some (gv b false (.bool d))):YS P md w n D S ⟨dst,.pick c x y,ty,pos,af,g⟩ (.bool (b||d)):=⟨y_or hc hx hy⟩
theorem s_pT{c:Operand}(hc:ev S c=some (.bool true))(hx:ev S x=some v):YS P md w n D S ⟨dst,.pick c x y,ty,pos,af,g⟩ v:=⟨y_pickT hc hx⟩
theorem s_pF{c:Operand}(hc:ev S c=some (.bool false))(hy:ev S y=some v):YS P md w n D S ⟨dst,.pick c x y,ty,pos,af,g⟩ v:=⟨y_pickF hc hy⟩
theorem s_ix{T e es bs b o:Nat}{p:Option Addr}{l c:Nat}(hx:ev S x=some (.slice p l c))(hy:ev S y=some (.int k j))[h:SL P T (e,es,bs)](hp:p=some ⟨b,o,none⟩)(h0:0≤j)(h1:j<l):YS P md w n D S ⟨dst,.indexAddr T x y,ty,pos,af,g⟩ (.pointer (some ⟨b,o+j.toNat*es,none⟩)):=⟨Qy hx hy h.h hp h0 h1⟩
theorem s_func{f:Fn}{fi ca:Array Operand}{l1 l2:List Value}(h1:evs S fi.toList=some l1)(h2:evs S ca.toList=some l2):YS P md w n D S ⟨dst,.makeFunc f fi ca,ty,pos,af,g⟩ (.func f ⟨l1⟩ ⟨l2⟩):=⟨y_func h1 h2⟩
end
def actO(o:Oper):Bool:=match o.op with
  | .call ⟨.builtin .len,_,_⟩ | .call ⟨.builtin .cap,_,_⟩ | .call ⟨.builtin .min,_,_⟩ | .call ⟨.builtin .max,_,_⟩=>false
  | .alloc _ | .box _ _ | .store _ _ _ | .call _ | .defer _ | .buildSlice _ _ _ | .makeSlice _ _ _ | .makeMap _ _ | .mapUpdate _ _ _ _ | .next _ _ | .range _ _=>true
  | _=>false
def txT:List Oper→Nat→Tr
  | [],_=>.done
  | o::r,i=>bif actO o then .act i (txT r (i+1)) else .pure i (txT r (i+1))
theorem txT_ok:∀ (l:List Oper) (i:Nat),Qh (i+l.length) i (txT l i)=true
  | [],i=>by simp [txT,Qh]
  | o::r,i=>by
    have h:=txT_ok r (i+1)
    rw [show i+1+r.length=i+(o::r).length by simp only [Li]; omega] at h
    unfold txT
    rw [Li] at h ⊢
    cases actO o <;> simpa [Qh] using h
def tl:List Nat→Tr
  | []=>.done
  | x::r=>bif x%3==2 then .cut (tl r) else bif x%3==1 then .act (x/3) (tl r) else .pure (x/3) (tl r)
def okDw(c:Code)(t:Tr):Bool:=match c with | .region _ o d=>d&&QI o&&QY o o.size (Array.replicate o.size false) t | _=>false
section
variable {K:Prop}{P:Program}{r:Option Nat}{k:Ks}{ops:Array Oper}{md:Md}{n m:Nat}{D:List Deferred}{S:List (Nat×Value)}{w:World}{i j d:Nat}{t:Tr}{c:Code}{o:Oper}{v:Value}{b cb:Bool}{dst:Option Tmp}{ty:TypeId}{pos:String}{af:Array Edge}{g:Option (Nat×Bool)}{w0:World}{X:Bs}{L:List (Nat×Blk)}
theorem q_p{o':Oper}(ho:opu ops S i=some (o,d))(hd:Nat.blt d n=true)(he:o=o')(hy:YS P md w n D S o' v)(h:AU K m (HR P r k ops md n D ((d,v)::S) t w)):AU K (m+1) (HR P r k ops md n D S (.pure i t) w):=⟨fun z=>Ja ho hd (he▸hy.h) (h.h z)⟩
theorem q_g{gd:Nat}{o':Oper}(ho:opg ops i=some (o,d,gd,b))(hl:look S gd=some (.bool cb))(hd:Nat.blt d n=true)(he:o=o')(hy:cb=b→YS P md w n D S o' v)(h:AU K m (HR P r k ops md n D ((d,gv cb b v)::S) t w)):AU K (m+1) (HR P r k ops md n D S (.pure i t) w):=⟨fun z=>JK ho hl hd (fun e=>he▸(hy e).h) (h.h z)⟩
theorem q_gf{gd:Nat}(ho:opg ops i=some (o,d,gd,b))(hl:look S gd=some (.bool cb))(hc:cb≠b)(hd:Nat.blt d n=true)(h:AU K m (HR P r k ops md n D ((d,undef)::S) t w)):AU K (m+1) (HR P r k ops md n D S (.pure i t) w):=⟨fun z=>rw_gf ho hl hc hd (h.h z)⟩
theorem q_done(h:AU K m (GN k n D S w)):AU K (m+1) (HR P r k ops md n D S .done w):=⟨fun z=>Qc (h.h z)⟩
theorem q_cut(h:AU K m (HR P r k ops none n D S t w)):AU K (m+1) (HR P r k ops md n D S (.cut t) w):=⟨fun z=>a_cut (h.h z)⟩
theorem q_sq(h:AU K m (HW P r c k n D S w)):AU K (m+1) (GN (k.sq P r c) n D S w):=⟨fun z=>QV (h.h z)⟩
theorem q_bl(h:AU K m (GN k n D S w)):AU K (m+1) (GN (k.bl i) n D S w):=⟨fun z=>gn_bl (h.h z)⟩
theorem q_xs(h:AU K m (GX k j n D S w)):AU K (m+1) (GX (k.sq P r c) j n D S w):=⟨fun z=>gx_sq (h.h z)⟩
theorem q_xh(h:AU K m (GN k n D S w)):AU K (m+1) (GX (k.bl i) i n D S w):=⟨fun z=>gx_here (h.h z)⟩
theorem q_rs(h:AU K m (GR k n D S w)):AU K (m+1) (GR (k.sq P r c) n D S w):=⟨fun z=>gr_sq (h.h z)⟩
theorem q_ret(hc:isRet c=true)(h:AU K m (GR k n D S w)):AU K (m+1) (HW P r c k n D S w):=⟨fun z=>HW_ret hc (h.h z)⟩
theorem q_ex(hc:extI c=some i)(h:AU K m (GX k i n D S w)):AU K (m+1) (HW P r c k n D S w):=⟨fun z=>HW_exit hc (h.h z)⟩
theorem q_bk(hc:blkI c=some i)(h:AU K m (HW P r (blkC c) (k.bl i) n D S w)):AU K (m+1) (HW P r c k n D S w):=⟨fun z=>XC hc (h.h z)⟩
theorem q_seq(hc:isSeq c=true)(h:AU K m (HW P r (fstC c) (k.sq P r (sndC c)) n D S w)):AU K (m+1) (HW P r c k n D S w):=⟨fun z=>Qb hc (h.h z)⟩
theorem q_skip(hc:isSkip c=true)(h:AU K m (GN k n D S w)):AU K (m+1) (HW P r c k n D S w):=⟨fun z=>HW_skip hc (h.h z)⟩
theorem q_cT{x:Operand}(hc:conC c=some x)(hb:ev S x=some (.bool b))(hbt:b=true)(h:AU K m (HW P r (thnC c) k n D S w)):AU K (m+1) (HW P r c k n D S w):=⟨fun z=>HW_condT hc hb hbt (h.h z)⟩
theorem q_cF{x:Operand}(hc:conC c=some x)(hb:ev S x=some (.bool b))(hbf:b=false)(h:AU K m (HW P r (elsC c) k n D S w)):AU K (m+1) (HW P r c k n D S w):=⟨fun z=>Ye hc hb hbf (h.h z)⟩
theorem q_text{tr:Tr}(hc:(match c with | .region _ o d=>!d&&QI o | _=>false)=true)(ht:txT (opsC c).toList 0=tr)(h:AU K m (HR P r k (opsC c) none n D S tr w)):AU K (m+1) (HW P r c k n D S w):=⟨fun z=>by
  refine JT tr ?_ (h.h z)
  subst ht
  cases c <;> simp only [L0] at hc
  rename_i x o d
  have:=txT_ok o.toList 0
  simp only [LV,Array.length_toList] at this
  simp only [opsC,this,hc,Bool.and_true]⟩
theorem q_xl{ι:Type}{Sx:ι→List (Nat×Value)}{M:ι→World→Prop}{μ:ι→Nat}{x:ι}{m':Nat}{D':List Deferred}(h:AU K m (GX k i n D S w)):AU K (m+1) (GX (k.lp Sx M μ x m' D') i n D S w):=⟨fun z=>gx_lp (h.h z)⟩
theorem q_rl{ι:Type}{Sx:ι→List (Nat×Value)}{M:ι→World→Prop}{μ:ι→Nat}{x:ι}{m':Nat}{D':List Deferred}(h:AU K m (GR k n D S w)):AU K (m+1) (GR (k.lp Sx M μ x m' D') n D S w):=⟨fun z=>gr_lp (h.h z)⟩
theorem q_rb(h:AU K m (GR k n D S w)):AU K (m+1) (GR (k.bl i) n D S w):=⟨fun z=>gr_bl (h.h z)⟩
theorem q_agf{gd:Nat}(ho:opg ops i=some (o,d,gd,b))(hl:look S gd=some (.bool cb))(hc:cb≠b)(hd:Nat.blt d n=true)(hh:Hold md w)(h:AU K m (HR P r k ops md n D ((d,undef)::S) t w)):AU K (m+1) (HR P r k ops md n D S (.act i t) w):=⟨fun z=>a_gf ho hl hc hd hh (h.h z)⟩
theorem q_f1{fn:Func}{R:Value→World→Prop}{t:Tmp}(hk:∀ a w,Fin P fn R a w→k.ret a w)(hr:fn.results.toList=[.tmp t])(h:look S t=some v)(hR:AU K m (R v w)):AU K (m+1) (GR k n [] S w):=⟨fun z=>toR (fin hk hr (.tmp h .nil) .one (hR.h z))⟩
theorem q_f2{fn:Func}{R:Value→World→Prop}{t s:Tmp}{u:Value}(hk:∀ a w,Fin P fn R a w→k.ret a w)(hr:fn.results.toList=[.tmp t,.tmp s])(h:look S t=some v)(h2:look S s=some u)(hR:AU K m (R (.tuple ⟨[v,u]⟩) w)):AU K (m+1) (GR k n [] S w):=⟨fun z=>toR (fin hk hr (.tmp h (.tmp h2 .nil)) .more (hR.h z))⟩
theorem q_f3{fn:Func}{R:Value→World→Prop}{t T p off sz e:Nat}{l vs:List Value}(hk:∀ a w,Fin P fn R a w→k.ret a w)(hr:fn.results.toList=[.cell t T])(h:look S t=some (.pointer (some ⟨p,off,none⟩)))(hm:Mem w0 w X L)(ha:At L p (.row e l))(hs:AG P T sz)(hv:nths l off sz=some vs)(hR:AU K m (R (.agg ⟨vs⟩) w)):AU K (m+1) (GR k n [] S w):=⟨fun z=>toR (fin hk hr (.cell h (Ju hs.h (hm.own _ ha.h rfl) hv) .nil) .one (hR.h z))⟩
theorem q_f4{fn:Func}{R:Value→World→Prop}{t T p off sz e s:Nat}{l vs:List Value}(hk:∀ a w,Fin P fn R a w→k.ret a w)(hr:fn.results.toList=[.cell t T,.tmp s])(h:look S t=some (.pointer (some ⟨p,off,none⟩)))(hm:Mem w0 w X L)(ha:At L p (.row e l))(hs:AG P T sz)(hv:nths l off sz=some vs)(h2:look S s=some v)(hR:AU K m (R (.tuple ⟨[.agg ⟨vs⟩,v]⟩) w)):AU K (m+1) (GR k n [] S w):=⟨fun z=>toR (fin hk hr (.cell h (Ju hs.h (hm.own _ ha.h rfl) hv) (.tmp h2 .nil)) .more (hR.h z))⟩
theorem cA{a9:Array Operand}{ts:Array TypeId}{f:FuncId}{vs:List Value}(ho:opu ops S i=some (⟨dst,.call ⟨.value (.func f),a9,ts⟩,ty,pos,af,g⟩,d))(hd:Nat.blt d n=true)(ha:evs S a9.toList=some vs)(hc:C P f vs w fun u w'=>u=v∧Ext No w w')(hm:Mem w0 w X L)
    (h:∀ w',Mem w0 w' X L→HR P r k ops none n D ((d,v)::S) t w') (hg:JH P f=true:=by kernel_rfl):HR P r k ops none n D S (.act i t) w:=a_call ho hd ha hg hc fun _ _ hR=>by
  obtain ⟨rfl,hE⟩:=hR
  exact ⟨trivial,h _ (hm.ext hE)⟩
theorem cB{a9:Array Operand}{ts:Array TypeId}{f:FuncId}{vs:List Value}(ho:opu ops S i=some (⟨dst,.call ⟨.value (.func f),a9,ts⟩,ty,pos,af,g⟩,d))(hd:Nat.blt d n=true)(ha:evs S a9.toList=some vs)(hc:C P f vs w fun u w'=>u=v∧Ext No w w')(hm:Mem w0 w X L)(hh:Hold md w)
    (h:∀ w',Mem w0 w' X L→Hold md w'→HR P r k ops md n D ((d,v)::S) t w') (hg:JH P f=true:=by kernel_rfl):HR P r k ops md n D S (.act i t) w:=a_call ho hd ha hg hc fun _ _ hR=>by
  obtain ⟨rfl,hE⟩:=hR
  exact ⟨hh.ext hE,h _ (hm.ext hE) (hh.ext hE)⟩
theorem ca{a9:Array Operand}{ts:Array TypeId}{f:FuncId}{vs:List Value}{R:Value→World→Prop}(ho:opu ops S i=some (⟨dst,.call ⟨.value (.func f),a9,ts⟩,ty,pos,af,g⟩,d))(hd:Nat.blt d n=true)(ha:evs S a9.toList=some vs)(hc:C P f vs w R)
    (h:∀ v w',R v w'→Hold md w'∧HR P r k ops md n D ((d,v)::S) t w') (hg:JH P f=true:=by kernel_rfl):HR P r k ops md n D S (.act i t) w:=a_call ho hd ha hg hc h
theorem cT{a9:Array Operand}{ts:Array TypeId}{f:FuncId}{vs:List Value}{R:Value→World→Prop}(ho:opu ops S i=some (⟨dst,.call ⟨.value (.func f),a9,ts⟩,ty,pos,af,g⟩,d))(hd:Nat.blt d n=true)(ha:evs S a9.toList=some vs)(hc:C P f vs w R)
    (h:∀ v w',R v w'→HR P r k ops none n D ((d,v)::S) t w') (hg:JH P f=true:=by kernel_rfl):HR P r k ops none n D S (.act i t) w:=a_call ho hd ha hg hc fun v w' hR=>⟨trivial,h v w' hR⟩
theorem aT{e:TypeId}{l:List Value}(hm:Mem w0 w X L)(h:∀ m w',Mem w0 w' X ((m,.row e l)::L)→HR P r k ops none n D ((d,.pointer (some ⟨m,0,none⟩))::S) t w')
    (ho:opu ops S i=some (⟨dst,.alloc e,ty,pos,af,g⟩,d):=by rfl) (hd:Nat.blt d n=true:=by rfl) (hz:zer P e=some l:=by exact ZE.h):HR P r k ops none n D S (.act i t) w:=a_alloc ho hd hz hm trivial fun m w' _ a _=>h m w' a
theorem bT{e:TypeId}{x:Operand}{l:List Value}(hm:Mem w0 w X L)(h:∀ m w',Mem w0 w' X ((m,.row e l)::L)→HR P r k ops none n D ((d,.pointer (some ⟨m,0,none⟩))::S) t w')
    (ho:opu ops S i=some (⟨dst,.box e x,ty,pos,af,g⟩,d):=by rfl) (hd:Nat.blt d n=true:=by rfl) (hx:ev S x=some v:=by rfl) (hl:v.cells=⟨l⟩:=by rfl):HR P r k ops none n D S (.act i t) w:=a_box ho hd hx hl hm trivial fun m w' _ a _=>h m w' a
theorem st{T e:TypeId}{x y:Operand}{m off:Nat}{l vs:List Value}(hm:Mem w0 w X L)(j:Nat)(h:∀ w',Mem w0 w' X (Qr L j (.row e (upds l off vs)))→HR P r k ops none n D S t w')(ho:opn ops S i=some ⟨dst,.store T x y,ty,pos,af,g⟩:=by rfl)(hx:ev S x=some (.pointer (some ⟨m,off,none⟩)):=by rfl)(hy:ev S y=some v:=by rfl)
    (hc:v.cells=⟨vs⟩:=by rfl) (h1:vs.all (·.oneCell')=true:=by rfl) (hk:blk L j=some (m,.row e l):=by rfl) (hlt:Nat.ble (off+vs.length) l.length=true:=by rfl) (hs:szO P T=some vs.length:=by kernel_rfl):HR P r k ops none n D S (.act i t) w:=Vi ho hx hy hc hs h1 hm j hk hlt h
theorem al{e:TypeId}{l:List Value}(hm:Mem w0 w X L)(hh:Hold md w)(h:∀ m w',Geq md m→Mem w0 w' X ((m,.row e l)::L)→Hold md w'→HR P r k ops md n D ((d,.pointer (some ⟨m,0,none⟩))::S) t w')
    (ho:opu ops S i=some (⟨dst,.alloc e,ty,pos,af,g⟩,d):=by rfl) (hd:Nat.blt d n=true:=by rfl) (hz:zer P e=some l:=by exact ZE.h):HR P r k ops md n D S (.act i t) w:=a_alloc ho hd hz hm hh h
theorem cd{x:Operand}(ht:b=true→HW P r (thnC c) k n D S w)(hf:b=false→HW P r (elsC c) k n D S w)(hc:conC c=some x:=by rfl)(hb:ev S x=some (.bool b):=by rfl):HW P r c k n D S w:=HW_cond hc hb ht hf
theorem dw [PnOk k](l:List Nat){t:Tr}(hM:Mem w0 w X L)(h:∀ w',w'.heap=w.heap→Mem w0 w' X L→Hold (some (w',No)) w'→Mem w0 w' X L→HR P r k (opsC c) (some (w',No)) n D S t w')(ht:tl l=t:=by conv=>lhs; reduce)(hf:P.follows .mixedOrders=true:=by kernel_rfl)
    (hc:okDw c t=true:=by kernel_rfl):HW P r c k n D S w:=JS t No hf hc hM fun w' a b e=>h w' a b e b
theorem f1{fn:Func}{R:Value→World→Prop}{t:Tmp}(hk:∀ a w,Fin P fn R a w→k.ret a w)(hR:R v w)(hr:fn.results.toList=[.tmp t]:=by rfl)(h:look S t=some v:=by rfl):GR k n [] S w:=toR (fin hk hr (.tmp h .nil) .one hR)
theorem f2{fn:Func}{R:Value→World→Prop}{t s:Tmp}{u:Value}(hk:∀ a w,Fin P fn R a w→k.ret a w)(hR:R (.tuple ⟨[v,u]⟩) w)(hr:fn.results.toList=[.tmp t,.tmp s]:=by rfl)(h:look S t=some v:=by rfl)(h2:look S s=some u:=by rfl):GR k n [] S w:=toR (fin hk hr (.tmp h (.tmp h2 .nil)) .more hR)
theorem C_o{f:FuncId}{fn:Func}{vs:List Value}{R:Value→World→Prop}(hf:P.funcs[f]?=some fn)(h:∀ (k:Ks) [PnOk k],(∀ a w,Fin P fn R a w→k.ret a w)→(∀ a w,Fin P fn R a w→k.norm a w)→Mem w w No []→HW P none (XS fn) k n [] (slots 0 vs) w)
    (hb:fn.body.isSome=true:=by rfl) (hn:fn.ntmps=n:=by rfl) (hl:Nat.ble vs.length n=true:=by rfl):C P f vs w R:=Vk hf hb hn hl fun k _ h1 h2=>h k h1 h2 (Mem.start w)
end
theorem au0{G:Prop}:AU G 0 G:=⟨id⟩
theorem au{G K:Prop}(n:Nat)(k:K)(h:AU K n G:=by
  repeat (first
    | with_reducible apply q_cut
    | with_reducible apply q_done
    | (with_reducible apply q_p
       · rfl
       · rfl
       · conv=>lhs; whnf
       · first | (apply s_move; rfl) | (apply s_assign; rfl) | (apply s_fa; rfl) | (apply s_ldT; rfl; exact hm; infer_instance; rfl) | (apply s_ldD; rfl; exact hm0; infer_instance; rfl) | (apply s_nil; rfl) | (apply s_extract; rfl; rfl) | (apply s_add; rfl; rfl; exact Ql (by omega) (by omega)) | (apply s_len; rfl) | (apply s_lt; rfl; rfl) | (apply s_gt; rfl; rfl) | (apply s_le; rfl; rfl) | (apply s_ge; rfl; rfl) | (apply s_eq; rfl; rfl) | (apply s_ne; rfl; rfl) | (apply s_min; rfl; rfl) | (apply s_max; rfl; rfl) | (apply s_pT; rfl; rfl) | (apply s_pF; rfl; rfl) | (apply s_not; rfl) | (apply s_and; rfl; rfl; rfl) | (apply s_or; rfl; rfl; rfl) | (apply (s_laT (s:=2) (vs:=[_,_])); rfl; exact hm; infer_instance; rfl) | (apply (s_laD (s:=2) (vs:=[_,_])); rfl; exact hm0; infer_instance; rfl) | (apply (s_laT (s:=5) (vs:=[_,_,_,_,_])); rfl; exact hm; infer_instance; rfl) | (apply (s_laD (s:=5) (vs:=[_,_,_,_,_])); rfl; exact hm0; infer_instance; rfl) | (apply (s_laT (s:=7) (vs:=[_,_,_,_,_,_,_])); rfl; exact hm; infer_instance; rfl) | (apply (s_laD (s:=7) (vs:=[_,_,_,_,_,_,_])); rfl; exact hm0; infer_instance; rfl) | (apply (s_laT (s:=3) (vs:=[_,_,_])); rfl; exact hm; infer_instance; rfl) | (apply (s_laD (s:=3) (vs:=[_,_,_])); rfl; exact hm0; infer_instance; rfl) | (apply s_ix; rfl; rfl; rfl; omega; omega) | (apply s_sub; rfl; rfl; exact Ql (by omega) (by omega)) | (apply (s_build (cs:=[_,_])); rfl; rfl; rfl; rfl; rfl) | (apply (s_build (cs:=[_,_,_,_,_])); rfl; rfl; rfl; rfl; rfl) | (apply (s_build (cs:=[_,_,_,_,_,_,_])); rfl; rfl; rfl; rfl; rfl) | (apply s_func; rfl; rfl) | (apply s_lxT; rfl; exact hm; assumption; rfl) | (apply s_lxD; rfl; exact hm0; assumption; rfl) | (apply s_pnil; rfl; rfl) | (apply s_mul; rfl; rfl; exact Ql (by omega) (by omega)) | (apply s_ldT; rfl; exact hm; (first | exact ⟨Js (k:=0) rfl⟩ | exact ⟨Js (k:=1) rfl⟩ | exact ⟨Js (k:=2) rfl⟩ | exact ⟨Js (k:=3) rfl⟩ | exact ⟨Js (k:=4) rfl⟩); rfl) | (apply s_ldD; rfl; exact hm0; (first | exact ⟨Js (k:=0) rfl⟩ | exact ⟨Js (k:=1) rfl⟩ | exact ⟨Js (k:=2) rfl⟩ | exact ⟨Js (k:=3) rfl⟩ | exact ⟨Js (k:=4) rfl⟩); rfl) | (apply (s_laT (s:=2) (vs:=[_,_])); rfl; exact hm; (first | exact ⟨Js (k:=0) rfl⟩ | exact ⟨Js (k:=1) rfl⟩ | exact ⟨Js (k:=2) rfl⟩ | exact ⟨Js (k:=3) rfl⟩ | exact ⟨Js (k:=4) rfl⟩); rfl) | (apply (s_laD (s:=2) (vs:=[_,_])); rfl; exact hm0; (first | exact ⟨Js (k:=0) rfl⟩ | exact ⟨Js (k:=1) rfl⟩ | exact ⟨Js (k:=2) rfl⟩ | exact ⟨Js (k:=3) rfl⟩ | exact ⟨Js (k:=4) rfl⟩); rfl) | (apply (s_laT (s:=5) (vs:=[_,_,_,_,_])); rfl; exact hm; (first | exact ⟨Js (k:=0) rfl⟩ | exact ⟨Js (k:=1) rfl⟩ | exact ⟨Js (k:=2) rfl⟩ | exact ⟨Js (k:=3) rfl⟩ | exact ⟨Js (k:=4) rfl⟩); rfl) | (apply (s_laD (s:=5) (vs:=[_,_,_,_,_])); rfl; exact hm0; (first | exact ⟨Js (k:=0) rfl⟩ | exact ⟨Js (k:=1) rfl⟩ | exact ⟨Js (k:=2) rfl⟩ | exact ⟨Js (k:=3) rfl⟩ | exact ⟨Js (k:=4) rfl⟩); rfl))
    | with_reducible apply q_sq
    | (with_reducible apply q_seq
       · rfl)
    | with_reducible apply q_bl
    | with_reducible apply q_xs
    | with_reducible apply q_rs
    | with_reducible apply q_xl
    | with_reducible apply q_rb
    | with_reducible apply q_rl
    | (with_reducible apply q_skip
       · rfl)
    | (with_reducible apply q_ret
       · rfl)
    | (with_reducible apply q_bk
       · rfl)
    | (with_reducible apply q_ex
       · rfl)
    | (with_reducible apply q_cF
       · rfl
       · rfl
       · rfl)
    | (with_reducible apply q_cT
       · rfl
       · rfl
       · rfl)
    | with_reducible apply q_xh
    | (with_reducible apply q_gf
       · rfl
       · rfl
       · decide
       · rfl)
    | (with_reducible apply q_g
       · rfl
       · rfl
       · rfl
       · conv=>lhs; whnf
       · intro hc
         first | (apply s_move; (first | exact gx hc rfl | rfl)) | (apply s_fa; (first | exact gx hc rfl | rfl)) | (apply s_ldT; (first | exact gx hc rfl | rfl); exact hm; infer_instance; rfl) | (apply s_ldD; (first | exact gx hc rfl | rfl); exact hm0; infer_instance; rfl) | (apply s_nil; (first | exact gx hc rfl | rfl)) | (apply s_extract; (first | exact gx hc rfl | rfl); rfl) | (apply s_lt; (first | exact gx hc rfl | rfl); (first | exact gx hc rfl | rfl)) | (apply s_gt; (first | exact gx hc rfl | rfl); (first | exact gx hc rfl | rfl)) | (apply s_le; (first | exact gx hc rfl | rfl); (first | exact gx hc rfl | rfl)) | (apply s_ge; (first | exact gx hc rfl | rfl); (first | exact gx hc rfl | rfl)) | (apply s_eq; (first | exact gx hc rfl | rfl); (first | exact gx hc rfl | rfl)) | (apply s_ne; (first | exact gx hc rfl | rfl); (first | exact gx hc rfl | rfl)) | (apply (s_laT (s:=2) (vs:=[_,_])); (first | exact gx hc rfl | rfl); exact hm; infer_instance; rfl) | (apply (s_laD (s:=2) (vs:=[_,_])); (first | exact gx hc rfl | rfl); exact hm0; infer_instance; rfl) | (apply (s_laT (s:=5) (vs:=[_,_,_,_,_])); (first | exact gx hc rfl | rfl); exact hm; infer_instance; rfl) | (apply (s_laD (s:=5) (vs:=[_,_,_,_,_])); (first | exact gx hc rfl | rfl); exact hm0; infer_instance; rfl) | (apply s_not; (first | exact gx hc rfl | rfl)) | (apply s_pnil; (first | exact gx hc rfl | rfl); rfl))
    | (with_reducible apply q_agf
       · rfl
       · rfl
       · decide
       · rfl
       · first | exact hh | exact trivial)
    | (with_reducible apply q_f1
       · exact Je
       · rfl
       · rfl)
    | (with_reducible apply q_f2
       · exact Je
       · rfl
       · rfl
       · rfl)
    | (with_reducible apply (q_f3 (vs:=[_,_]))
       · exact Je
       · rfl
       · rfl
       · exact hm
       · (first | infer_instance | exact ⟨Js (k:=0) rfl⟩ | exact ⟨Js (k:=1) rfl⟩ | exact ⟨Js (k:=2) rfl⟩ | exact ⟨Js (k:=3) rfl⟩ | exact ⟨Js (k:=4) rfl⟩)
       · infer_instance
       · rfl)
    | (with_reducible apply (q_f3 (vs:=[_,_,_,_,_]))
       · exact Je
       · rfl
       · rfl
       · exact hm
       · (first | infer_instance | exact ⟨Js (k:=0) rfl⟩ | exact ⟨Js (k:=1) rfl⟩ | exact ⟨Js (k:=2) rfl⟩ | exact ⟨Js (k:=3) rfl⟩ | exact ⟨Js (k:=4) rfl⟩)
       · infer_instance
       · rfl)
    | (with_reducible apply (q_f3 (vs:=[_,_,_,_,_,_,_]))
       · exact Je
       · rfl
       · rfl
       · exact hm
       · (first | infer_instance | exact ⟨Js (k:=0) rfl⟩ | exact ⟨Js (k:=1) rfl⟩ | exact ⟨Js (k:=2) rfl⟩ | exact ⟨Js (k:=3) rfl⟩ | exact ⟨Js (k:=4) rfl⟩)
       · infer_instance
       · rfl)
    | (with_reducible apply (q_f4 (vs:=[_,_]))
       · exact Je
       · rfl
       · rfl
       · exact hm
       · (first | infer_instance | exact ⟨Js (k:=0) rfl⟩ | exact ⟨Js (k:=1) rfl⟩ | exact ⟨Js (k:=2) rfl⟩ | exact ⟨Js (k:=3) rfl⟩ | exact ⟨Js (k:=4) rfl⟩)
       · infer_instance
       · rfl
       · rfl)
    | (with_reducible apply (q_f4 (vs:=[_,_,_,_,_]))
       · exact Je
       · rfl
       · rfl
       · exact hm
       · (first | infer_instance | exact ⟨Js (k:=0) rfl⟩ | exact ⟨Js (k:=1) rfl⟩ | exact ⟨Js (k:=2) rfl⟩ | exact ⟨Js (k:=3) rfl⟩ | exact ⟨Js (k:=4) rfl⟩)
       · infer_instance
       · rfl
       · rfl)
    | (with_reducible apply (q_f4 (vs:=[_,_,_,_,_,_,_]))
       · exact Je
       · rfl
       · rfl
       · exact hm
       · (first | infer_instance | exact ⟨Js (k:=0) rfl⟩ | exact ⟨Js (k:=1) rfl⟩ | exact ⟨Js (k:=2) rfl⟩ | exact ⟨Js (k:=3) rfl⟩ | exact ⟨Js (k:=4) rfl⟩)
       · infer_instance
       · rfl
       · rfl)
    | (with_reducible apply q_text
       · kernel_rfl
       · conv=>lhs; reduce))
  exact au0):G:=h.h k
end Go.Cx
namespace Go.Proofs.YtaehgpeenaomcaaGreat
open Go Go.Cx
instance fo32_0:FO Tryz.prog 32 0 (0):=⟨by kernel_rfl⟩
instance:FO Tryz.prog 32 1 (1):=⟨by kernel_rfl⟩
instance sc3:SC Tryz.prog 3:=⟨by kernel_rfl⟩
theorem go53:JH Tryz.prog 53=true:=by kernel_rfl
theorem mix:Tryz.prog.follows .mixedOrders=true:=by kernel_rfl
instance ag32:AG Tryz.prog 32 (2):=⟨by kernel_rfl⟩
instance ft32:FT Tryz.prog 32 [(0,1),(1,1)]:=⟨by kernel_rfl⟩
theorem sz32:szO Tryz.prog 32=some 2:=by kernel_rfl
instance z32:ZE Tryz.prog 32 [.int .i64 0,.int .i64 0]:=⟨by kernel_rfl⟩
theorem go36:JH Tryz.prog 36=true:=by kernel_rfl
instance sl240:SL Tryz.prog 240 (32,2,16):=⟨by kernel_rfl⟩
theorem go251:JH Tryz.prog 251=true:=by kernel_rfl
theorem go312:JH Tryz.prog 312=true:=by kernel_rfl
theorem sz3:szO Tryz.prog 3=some 1:=by kernel_rfl
theorem go304:JH Tryz.prog 304=true:=by kernel_rfl
instance sc240:SC Tryz.prog 240:=⟨by kernel_rfl⟩
instance:ZE Tryz.prog 240 [.slice none 0 0]:=⟨by kernel_rfl⟩
theorem sb22:slcB Tryz.prog 22=true:=by kernel_rfl
instance sl22:SL Tryz.prog 22 (5,1,1):=⟨by kernel_rfl⟩
instance z5:ZE Tryz.prog 5 [.int .u8 0]:=⟨by kernel_rfl⟩
instance sc5:SC Tryz.prog 5:=⟨by kernel_rfl⟩
theorem bt22_9:bts Tryz.prog 22 9=true:=by kernel_rfl
theorem it3:intO Tryz.prog 3=some .i64:=by kernel_rfl
instance:AG Tryz.prog 232 (2):=⟨by kernel_rfl⟩
instance:FO Tryz.prog 60 0 (0):=⟨by kernel_rfl⟩
instance:FO Tryz.prog 60 1 (1):=⟨by kernel_rfl⟩
instance fo60_3:FO Tryz.prog 60 3 (3):=⟨by kernel_rfl⟩
instance fo60_4:FO Tryz.prog 60 4 (4):=⟨by kernel_rfl⟩
instance:FT Tryz.prog 232 [(0,2)]:=⟨by kernel_rfl⟩
instance sc22:SC Tryz.prog 22:=⟨by kernel_rfl⟩
instance:ZE Tryz.prog 232 [.int .i64 0,.int .i64 0]:=⟨by kernel_rfl⟩
instance ag60:AG Tryz.prog 60 (5):=⟨by kernel_rfl⟩
theorem fv232_0:fldV Tryz.prog 232 0=some (0,2,true):=by kernel_rfl
instance fo60_2:FO Tryz.prog 60 2 (2):=⟨by kernel_rfl⟩
instance:FT Tryz.prog 60 [(0,1),(1,1),(2,1),(3,1),(4,1)]:=⟨by kernel_rfl⟩
theorem sz60:szO Tryz.prog 60=some 5:=by kernel_rfl
instance z60:ZE Tryz.prog 60 [.int .i64 0,.int .i64 0,.int .i64 0,.int .i64 0,.slice none 0 0]:=⟨by kernel_rfl⟩
instance:FO Tryz.prog 232 0 (0):=⟨by kernel_rfl⟩
theorem go34:JH Tryz.prog 34=true:=by kernel_rfl
theorem go32:JH Tryz.prog 32=true:=by kernel_rfl
theorem go88:JH Tryz.prog 88=true:=by kernel_rfl
instance sl88:SL Tryz.prog 88 (22,1,24):=⟨by kernel_rfl⟩
instance:FO Tryz.prog 383 0 (0):=⟨by kernel_rfl⟩
instance:FT Tryz.prog 383 [(0,2),(2,5)]:=⟨by kernel_rfl⟩
instance z22:ZE Tryz.prog 22 [.slice none 0 0]:=⟨by kernel_rfl⟩
instance:ZE Tryz.prog 383 [.int .i64 0,.int .i64 0,.int .i64 0,.int .i64 0,.int .i64 0,.int .i64 0,.slice none 0 0]:=⟨by kernel_rfl⟩
instance ag34:AG Tryz.prog 34 (7):=⟨by kernel_rfl⟩
instance:FO Tryz.prog 34 2 (2):=⟨by kernel_rfl⟩
instance:FO Tryz.prog 34 3 (4):=⟨by kernel_rfl⟩
instance:FO Tryz.prog 34 4 (6):=⟨by kernel_rfl⟩
instance:FT Tryz.prog 34 [(0,1),(1,1),(2,2),(4,2),(6,1)]:=⟨by kernel_rfl⟩
theorem fv32_1:fldV Tryz.prog 32 1=some (1,1,false):=by kernel_rfl
instance:ZE Tryz.prog 34 [.int .i64 0,.int .i64 0,.int .i64 0,.int .i64 0,.int .i64 0,.int .i64 0,.int .i64 0]:=⟨by kernel_rfl⟩
instance fo26_0:FO Tryz.prog 26 0 (0):=⟨by kernel_rfl⟩
instance:FO Tryz.prog 26 1 (1):=⟨by kernel_rfl⟩
instance sl134:SL Tryz.prog 134 (3,1,8):=⟨by kernel_rfl⟩
instance:FO Tryz.prog 104 0 (0):=⟨by kernel_rfl⟩
instance:FO Tryz.prog 104 1 (1):=⟨by kernel_rfl⟩
instance:FO Tryz.prog 112 0 (0):=⟨by kernel_rfl⟩
instance pb67:PB Tryz.prog 67:=⟨by kernel_rfl⟩
theorem go105:JH Tryz.prog 105=true:=by kernel_rfl
instance:FO Tryz.prog 112 5 (11):=⟨by kernel_rfl⟩
instance sc4:SC Tryz.prog 4:=⟨by kernel_rfl⟩
instance ag108:AG Tryz.prog 108 (5):=⟨by kernel_rfl⟩
instance:FO Tryz.prog 112 2 (4):=⟨by kernel_rfl⟩
instance:ZE Tryz.prog 108 [.int .i64 0,.int .i64 0,.int .i64 0,.int .i64 0,.int .i64 0]:=⟨by kernel_rfl⟩
instance:FT Tryz.prog 108 [(0,1),(1,1),(2,1),(3,1),(4,1)]:=⟨by kernel_rfl⟩
instance:FO Tryz.prog 112 3 (9):=⟨by kernel_rfl⟩
instance:FO Tryz.prog 112 4 (10):=⟨by kernel_rfl⟩
instance:FO Tryz.prog 258 1 (1):=⟨by kernel_rfl⟩
theorem mi110:mapII Tryz.prog 110=true:=by kernel_rfl
instance sc109:SC Tryz.prog 109:=⟨by kernel_rfl⟩
instance:SC Tryz.prog 110:=⟨by kernel_rfl⟩
instance sl109:SL Tryz.prog 109 (258,2,32):=⟨by kernel_rfl⟩
instance ag258:AG Tryz.prog 258 (2):=⟨by kernel_rfl⟩
instance:FO Tryz.prog 258 0 (0):=⟨by kernel_rfl⟩
instance z258:ZE Tryz.prog 258 [.int .i64 0,.slice none 0 0]:=⟨by kernel_rfl⟩
instance:FO Tryz.prog 106 1 (1):=⟨by kernel_rfl⟩
instance:FO Tryz.prog 112 1 (2):=⟨by kernel_rfl⟩
instance sc55:SC Tryz.prog 55:=⟨by kernel_rfl⟩
instance sc67:SC Tryz.prog 67:=⟨by kernel_rfl⟩
instance:FO Tryz.prog 108 1 (1):=⟨by kernel_rfl⟩
instance:FT Tryz.prog 106 [(0,1),(1,1)]:=⟨by kernel_rfl⟩
instance:ZE Tryz.prog 106 [.int .i64 0,.int .u64 0]:=⟨by kernel_rfl⟩
instance:FO Tryz.prog 106 0 (0):=⟨by kernel_rfl⟩
theorem sz4:szO Tryz.prog 4=some 1:=by kernel_rfl
instance:FT Tryz.prog 104 [(0,1),(1,1)]:=⟨by kernel_rfl⟩
instance ft112:FT Tryz.prog 112 [(0,2),(2,2),(4,5),(9,1),(10,1),(11,1)]:=⟨by kernel_rfl⟩
instance:ZE Tryz.prog 104 [.int .i64 0,.slice none 0 0]:=⟨by kernel_rfl⟩
instance z112:ZE Tryz.prog 112 [.int .i64 0,.slice none 0 0,.int .i64 0,.int .u64 0,.int .i64 0,.int .i64 0,.int .i64 0,.int .i64 0,.int .i64 0,.slice none 0 0,.map none,.bool false]:=⟨by kernel_rfl⟩
instance:FO Tryz.prog 108 0 (0):=⟨by kernel_rfl⟩
instance:FO Tryz.prog 108 2 (2):=⟨by kernel_rfl⟩
instance:FO Tryz.prog 108 3 (3):=⟨by kernel_rfl⟩
instance:FO Tryz.prog 108 4 (4):=⟨by kernel_rfl⟩
instance:FT Tryz.prog 258 [(0,1),(1,1)]:=⟨by kernel_rfl⟩
instance:FO Tryz.prog 265 0 (0):=⟨by kernel_rfl⟩
instance:FO Tryz.prog 265 1 (1):=⟨by kernel_rfl⟩
instance:FO Tryz.prog 327 2 (2):=⟨by kernel_rfl⟩
instance:FO Tryz.prog 46 0 (0):=⟨by kernel_rfl⟩
instance:FT Tryz.prog 46 [(0,1),(1,1)]:=⟨by kernel_rfl⟩
instance sc35:SC Tryz.prog 35:=⟨by kernel_rfl⟩
instance z46:ZE Tryz.prog 46 [.int .i64 0,.int .i64 0]:=⟨by kernel_rfl⟩
instance:FO Tryz.prog 327 0 (0):=⟨by kernel_rfl⟩
instance:FO Tryz.prog 327 1 (1):=⟨by kernel_rfl⟩
theorem is5:(Tryz.prog.underlying 5).isSome=true:=by kernel_rfl
theorem it55:intO Tryz.prog 55=some .u64:=by kernel_rfl
instance z55:ZE Tryz.prog 55 [.int .u64 0]:=⟨by kernel_rfl⟩
instance:FO Tryz.prog 329 0 (0):=⟨by kernel_rfl⟩
instance:PB Tryz.prog 280:=⟨by kernel_rfl⟩
theorem go259:JH Tryz.prog 259=true:=by kernel_rfl
instance ag265:AG Tryz.prog 265 (2):=⟨by kernel_rfl⟩
theorem is55:(Tryz.prog.underlying 55).isSome=true:=by kernel_rfl
theorem it5:intO Tryz.prog 5=some .u8:=by kernel_rfl
instance sl267:SL Tryz.prog 267 (265,2,16):=⟨by kernel_rfl⟩
instance z265:ZE Tryz.prog 265 [.int .u64 0,.int .i64 0]:=⟨by kernel_rfl⟩
theorem go80:JH Tryz.prog 80=true:=by kernel_rfl
instance ag46:AG Tryz.prog 46 (2):=⟨by kernel_rfl⟩
instance ft327:FT Tryz.prog 327 [(0,1),(1,1),(2,2)]:=⟨by kernel_rfl⟩
instance ft329:FT Tryz.prog 329 [(0,4)]:=⟨by kernel_rfl⟩
instance z327:ZE Tryz.prog 327 [.slice none 0 0,.int .i64 0,.int .i64 0,.int .i64 0]:=⟨by kernel_rfl⟩
instance z329:ZE Tryz.prog 329 [.slice none 0 0,.int .i64 0,.int .i64 0,.int .i64 0]:=⟨by kernel_rfl⟩
instance ag186:AG Tryz.prog 186 (16):=⟨by kernel_rfl⟩
theorem ar186:arrO Tryz.prog 186=some (16,120,1):=by kernel_rfl
theorem is3:(Tryz.prog.underlying 3).isSome=true:=by kernel_rfl
theorem it120:intO Tryz.prog 120=some .u32:=by kernel_rfl
instance:ZE Tryz.prog 186 [.int .u32 0,.int .u32 0,.int .u32 0,.int .u32 0,.int .u32 0,.int .u32 0,.int .u32 0,.int .u32 0,.int .u32 0,.int .u32 0,.int .u32 0,.int .u32 0,.int .u32 0,.int .u32 0,.int .u32 0,.int .u32 0]:=⟨by kernel_rfl⟩
theorem sz120:szO Tryz.prog 120=some 1:=by kernel_rfl
instance sc120:SC Tryz.prog 120:=⟨by kernel_rfl⟩
theorem go281:JH Tryz.prog 281=true:=by kernel_rfl
theorem is120:(Tryz.prog.underlying 120).isSome=true:=by kernel_rfl
theorem it151:intO Tryz.prog 151=some .u64:=by kernel_rfl
instance ag187:AG Tryz.prog 187 (64):=⟨by kernel_rfl⟩
instance ft187:FT Tryz.prog 187 [(0,1),(1,1),(2,1),(3,1),(4,1),(5,1),(6,1),(7,1),(8,1),(9,1),(10,1),(11,1),(12,1),(13,1),(14,1),(15,1),(16,1),(17,1),(18,1),(19,1),(20,1),(21,1),(22,1),(23,1),(24,1),(25,1),(26,1),(27,1),(28,1),(29,1),(30,1),(31,1),(32,1),(33,1),(34,1),(35,1),(36,1),(37,1),(38,1),(39,1),(40,1),(41,1),(42,1),(43,1),(44,1),(45,1),(46,1),(47,1),(48,1),(49,1),(50,1),(51,1),(52,1),(53,1),(54,1),(55,1),(56,1),(57,1),(58,1),(59,1),(60,1),(61,1),(62,1),(63,1)]:=⟨by kernel_rfl⟩
instance z187:ZE Tryz.prog 187 [.int .u32 0,.int .u32 0,.int .u32 0,.int .u32 0,.int .u32 0,.int .u32 0,.int .u32 0,.int .u32 0,.int .u32 0,.int .u32 0,.int .u32 0,.int .u32 0,.int .u32 0,.int .u32 0,.int .u32 0,.int .u32 0,.int .u32 0,.int .u32 0,.int .u32 0,.int .u32 0,.int .u32 0,.int .u32 0,.int .u32 0,.int .u32 0,.int .u32 0,.int .u32 0,.int .u32 0,.int .u32 0,.int .u32 0,.int .u32 0,.int .u32 0,.int .u32 0,.int .u32 0,.int .u32 0,.int .u32 0,.int .u32 0,.int .u32 0,.int .u32 0,.int .u32 0,.int .u32 0,.int .u32 0,.int .u32 0,.int .u32 0,.int .u32 0,.int .u32 0,.int .u32 0,.int .u32 0,.int .u32 0,.int .u32 0,.int .u32 0,.int .u32 0,.int .u32 0,.int .u32 0,.int .u32 0,.int .u32 0,.int .u32 0,.int .u32 0,.int .u32 0,.int .u32 0,.int .u32 0,.int .u32 0,.int .u32 0,.int .u32 0,.int .u32 0]:=⟨by kernel_rfl⟩
instance ag121:AG Tryz.prog 121 (8):=⟨by kernel_rfl⟩
theorem ar121:arrO Tryz.prog 121=some (8,120,1):=by kernel_rfl
theorem ar187:arrO Tryz.prog 187=some (64,120,1):=by kernel_rfl
instance:FO Tryz.prog 123 0 (0):=⟨by kernel_rfl⟩
instance sl190:SL Tryz.prog 190 (120,1,4):=⟨by kernel_rfl⟩
instance z121:ZE Tryz.prog 121 [.int .u32 0,.int .u32 0,.int .u32 0,.int .u32 0,.int .u32 0,.int .u32 0,.int .u32 0,.int .u32 0]:=⟨by kernel_rfl⟩
instance:FO Tryz.prog 123 1 (8):=⟨by kernel_rfl⟩
instance:FO Tryz.prog 123 2 (9):=⟨by kernel_rfl⟩
instance ag123:AG Tryz.prog 123 (10):=⟨by kernel_rfl⟩
instance ft121:FT Tryz.prog 121 [(0,1),(1,1),(2,1),(3,1),(4,1),(5,1),(6,1),(7,1)]:=⟨by kernel_rfl⟩
instance ft123:FT Tryz.prog 123 [(0,8),(8,1),(9,1)]:=⟨by kernel_rfl⟩
instance z123:ZE Tryz.prog 123 [.int .u32 0,.int .u32 0,.int .u32 0,.int .u32 0,.int .u32 0,.int .u32 0,.int .u32 0,.int .u32 0,.slice none 0 0,.int .i64 0]:=⟨by kernel_rfl⟩
instance ag23:AG Tryz.prog 23 (32):=⟨by kernel_rfl⟩
theorem ar23:arrO Tryz.prog 23=some (32,5,1):=by kernel_rfl
theorem sz23:szO Tryz.prog 23=some 32:=by kernel_rfl
instance:ZE Tryz.prog 23 [.int .u8 0,.int .u8 0,.int .u8 0,.int .u8 0,.int .u8 0,.int .u8 0,.int .u8 0,.int .u8 0,.int .u8 0,.int .u8 0,.int .u8 0,.int .u8 0,.int .u8 0,.int .u8 0,.int .u8 0,.int .u8 0,.int .u8 0,.int .u8 0,.int .u8 0,.int .u8 0,.int .u8 0,.int .u8 0,.int .u8 0,.int .u8 0,.int .u8 0,.int .u8 0,.int .u8 0,.int .u8 0,.int .u8 0,.int .u8 0,.int .u8 0,.int .u8 0]:=⟨by kernel_rfl⟩
theorem sz5:szO Tryz.prog 5=some 1:=by kernel_rfl
instance ft126:FT Tryz.prog 126 [(0,10)]:=⟨by kernel_rfl⟩
instance z126:ZE Tryz.prog 126 [.int .u32 0,.int .u32 0,.int .u32 0,.int .u32 0,.int .u32 0,.int .u32 0,.int .u32 0,.int .u32 0,.slice none 0 0,.int .i64 0]:=⟨by kernel_rfl⟩
instance:FO Tryz.prog 126 0 (0):=⟨by kernel_rfl⟩
instance:PB Tryz.prog 89:=⟨by kernel_rfl⟩
instance:FT Tryz.prog 23 [(0,1),(1,1),(2,1),(3,1),(4,1),(5,1),(6,1),(7,1),(8,1),(9,1),(10,1),(11,1),(12,1),(13,1),(14,1),(15,1),(16,1),(17,1),(18,1),(19,1),(20,1),(21,1),(22,1),(23,1),(24,1),(25,1),(26,1),(27,1),(28,1),(29,1),(30,1),(31,1)]:=⟨by kernel_rfl⟩
instance z3:ZE Tryz.prog 3 [.int .i64 0]:=⟨by kernel_rfl⟩
instance z4:ZE Tryz.prog 4 [.bool false]:=⟨by kernel_rfl⟩
theorem go283:JH Tryz.prog 283=true:=by kernel_rfl
theorem is151:(Tryz.prog.underlying 151).isSome=true:=by kernel_rfl
instance:FO Tryz.prog 284 1 (1):=⟨by kernel_rfl⟩
instance sc134:SC Tryz.prog 134:=⟨by kernel_rfl⟩
theorem go260:JH Tryz.prog 260=true:=by kernel_rfl
instance ag284:AG Tryz.prog 284 (3):=⟨by kernel_rfl⟩
instance:FO Tryz.prog 286 0 (0):=⟨by kernel_rfl⟩
instance:PB Tryz.prog 180:=⟨by kernel_rfl⟩
instance:AG Tryz.prog 289 (7):=⟨by kernel_rfl⟩
instance:FO Tryz.prog 284 0 (0):=⟨by kernel_rfl⟩
instance:FO Tryz.prog 286 1 (3):=⟨by kernel_rfl⟩
instance:FT Tryz.prog 289 [(0,1),(1,1),(2,5)]:=⟨by kernel_rfl⟩
instance sc24:SC Tryz.prog 24:=⟨by kernel_rfl⟩
instance sl24:SL Tryz.prog 24 (60,5,56):=⟨by kernel_rfl⟩
theorem sz289:szO Tryz.prog 289=some 7:=by kernel_rfl
instance:ZE Tryz.prog 289 [.int .i64 0,.int .i64 0,.int .i64 0,.int .i64 0,.int .i64 0,.int .i64 0,.slice none 0 0]:=⟨by kernel_rfl⟩
instance:FO Tryz.prog 284 2 (2):=⟨by kernel_rfl⟩
instance ft284:FT Tryz.prog 284 [(0,1),(1,1),(2,1)]:=⟨by kernel_rfl⟩
instance ft286:FT Tryz.prog 286 [(0,3),(3,1)]:=⟨by kernel_rfl⟩
instance z284:ZE Tryz.prog 284 [.int .i64 0,.slice none 0 0,.slice none 0 0]:=⟨by kernel_rfl⟩
instance z286:ZE Tryz.prog 286 [.int .i64 0,.slice none 0 0,.slice none 0 0,.slice none 0 0]:=⟨by kernel_rfl⟩
theorem go9:JH Tryz.prog 9=true:=by kernel_rfl
theorem go253:JH Tryz.prog 253=true:=by kernel_rfl
instance:ZE Tryz.prog 35 [.int .i64 0]:=⟨by kernel_rfl⟩
theorem cb22:slB8 Tryz.prog 22=true:=by kernel_rfl
instance:FO Tryz.prog 225 0 (0):=⟨by kernel_rfl⟩
instance:FO Tryz.prog 225 1 (1):=⟨by kernel_rfl⟩
instance:FO Tryz.prog 225 2 (2):=⟨by kernel_rfl⟩
instance:FO Tryz.prog 225 3 (3):=⟨by kernel_rfl⟩
instance:FO Tryz.prog 225 4 (4):=⟨by kernel_rfl⟩
instance:FT Tryz.prog 265 [(0,1),(1,1)]:=⟨by kernel_rfl⟩
instance ag225:AG Tryz.prog 225 (5):=⟨by kernel_rfl⟩
instance:FT Tryz.prog 225 [(0,1),(1,1),(2,1),(3,1),(4,1)]:=⟨by kernel_rfl⟩
theorem iii46:int2 Tryz.prog 46=true:=by kernel_rfl
theorem sz225:szO Tryz.prog 225=some 5:=by kernel_rfl
instance z225:ZE Tryz.prog 225 [.int .u64 0,.int .u64 0,.int .i64 0,.int .i64 0,.slice none 0 0]:=⟨by kernel_rfl⟩
theorem go332:JH Tryz.prog 332=true:=by kernel_rfl
instance sl273:SL Tryz.prog 273 (225,5,56):=⟨by kernel_rfl⟩
theorem sb273:slcB Tryz.prog 273=true:=by kernel_rfl
theorem go227:JH Tryz.prog 227=true:=by kernel_rfl
instance:FO Tryz.prog 269 0 (0):=⟨by kernel_rfl⟩
instance:FO Tryz.prog 269 2 (2):=⟨by kernel_rfl⟩
instance ag269:AG Tryz.prog 269 (3):=⟨by kernel_rfl⟩
instance:FO Tryz.prog 269 1 (1):=⟨by kernel_rfl⟩
instance fo271_0:FO Tryz.prog 271 0 (0):=⟨by kernel_rfl⟩
instance sc181:SC Tryz.prog 181:=⟨by kernel_rfl⟩
instance sc273:SC Tryz.prog 273:=⟨by kernel_rfl⟩
instance:FO Tryz.prog 271 2 (4):=⟨by kernel_rfl⟩
instance:FO Tryz.prog 271 3 (5):=⟨by kernel_rfl⟩
instance:FO Tryz.prog 271 4 (10):=⟨by kernel_rfl⟩
instance ft269:FT Tryz.prog 269 [(0,1),(1,1),(2,1)]:=⟨by kernel_rfl⟩
instance ft271:FT Tryz.prog 271 [(0,3),(3,1),(4,1),(5,5),(10,1)]:=⟨by kernel_rfl⟩
instance:ZE Tryz.prog 181 [.pointer none]:=⟨by kernel_rfl⟩
instance z269:ZE Tryz.prog 269 [.pointer none,.int .i64 0,.int .i64 0]:=⟨by kernel_rfl⟩
instance z271:ZE Tryz.prog 271 [.pointer none,.int .i64 0,.int .i64 0,.int .u64 0,.int .u64 0,.int .u64 0,.int .u64 0,.int .i64 0,.int .i64 0,.slice none 0 0,.bool false]:=⟨by kernel_rfl⟩
instance:ZE Tryz.prog 273 [.slice none 0 0]:=⟨by kernel_rfl⟩
theorem go176:JH Tryz.prog 176=true:=by kernel_rfl
instance:FO Tryz.prog 271 1 (3):=⟨by kernel_rfl⟩
theorem fv32_0:fldV Tryz.prog 32 0=some (0,1,false):=by kernel_rfl
instance:PB Tryz.prog 181:=⟨by kernel_rfl⟩
instance:FO Tryz.prog 34 0 (0):=⟨by kernel_rfl⟩
theorem fl34:flat Tryz.prog 34 [.num .i64,.num .i64,.num .i64,.num .i64,.num .i64,.num .i64,.num .i64]=true:=by kernel_rfl
theorem go47:JH Tryz.prog 47=true:=by kernel_rfl
instance fo26_4:FO Tryz.prog 26 4 (66):=⟨by kernel_rfl⟩
instance ag26:AG Tryz.prog 26 (67):=⟨by kernel_rfl⟩
theorem go19:JH Tryz.prog 19=true:=by kernel_rfl
theorem go30:JH Tryz.prog 30=true:=by kernel_rfl
theorem go31:JH Tryz.prog 31=true:=by kernel_rfl
theorem go33:JH Tryz.prog 33=true:=by kernel_rfl
instance fo28_0:FO Tryz.prog 28 0 (0):=⟨by kernel_rfl⟩
instance:FO Tryz.prog 28 1 (1):=⟨by kernel_rfl⟩
instance:FO Tryz.prog 28 2 (68):=⟨by kernel_rfl⟩
instance:FO Tryz.prog 28 3 (69):=⟨by kernel_rfl⟩
instance:FO Tryz.prog 28 4 (70):=⟨by kernel_rfl⟩
theorem go15:JH Tryz.prog 15=true:=by kernel_rfl
theorem go16:JH Tryz.prog 16=true:=by kernel_rfl
theorem sz26:szO Tryz.prog 26=some 67:=by kernel_rfl
instance z26:ZE Tryz.prog 26 [.int .i64 0,.int .i64 0,.int .u8 0,.int .u8 0,.int .u8 0,.int .u8 0,.int .u8 0,.int .u8 0,.int .u8 0,.int .u8 0,.int .u8 0,.int .u8 0,.int .u8 0,.int .u8 0,.int .u8 0,.int .u8 0,.int .u8 0,.int .u8 0,.int .u8 0,.int .u8 0,.int .u8 0,.int .u8 0,.int .u8 0,.int .u8 0,.int .u8 0,.int .u8 0,.int .u8 0,.int .u8 0,.int .u8 0,.int .u8 0,.int .u8 0,.int .u8 0,.int .u8 0,.int .u8 0,.int .u8 0,.int .u8 0,.int .u8 0,.int .u8 0,.int .u8 0,.int .u8 0,.int .u8 0,.int .u8 0,.int .u8 0,.int .u8 0,.int .u8 0,.int .u8 0,.int .u8 0,.int .u8 0,.int .u8 0,.int .u8 0,.int .u8 0,.int .u8 0,.int .u8 0,.int .u8 0,.int .u8 0,.int .u8 0,.int .u8 0,.int .u8 0,.int .u8 0,.int .u8 0,.int .u8 0,.int .u8 0,.int .u8 0,.int .u8 0,.int .u8 0,.int .u8 0,.slice none 0 0]:=⟨by kernel_rfl⟩
instance:ZE Tryz.prog 134 [.slice none 0 0]:=⟨by kernel_rfl⟩
theorem go121:JH Tryz.prog 121=true:=by kernel_rfl
theorem go122:JH Tryz.prog 122=true:=by kernel_rfl
instance:ZE Tryz.prog 24 [.slice none 0 0]:=⟨by kernel_rfl⟩
instance ft26:FT Tryz.prog 26 [(0,1),(1,1),(2,32),(34,32),(66,1)]:=⟨by kernel_rfl⟩
theorem fl23:flat Tryz.prog 23 [.num .u8,.num .u8,.num .u8,.num .u8,.num .u8,.num .u8,.num .u8,.num .u8,.num .u8,.num .u8,.num .u8,.num .u8,.num .u8,.num .u8,.num .u8,.num .u8,.num .u8,.num .u8,.num .u8,.num .u8,.num .u8,.num .u8,.num .u8,.num .u8,.num .u8,.num .u8,.num .u8,.num .u8,.num .u8,.num .u8,.num .u8,.num .u8]=true:=by kernel_rfl
instance:FO Tryz.prog 26 2 (2):=⟨by kernel_rfl⟩
instance:FO Tryz.prog 26 3 (34):=⟨by kernel_rfl⟩
theorem fv26_4:fldV Tryz.prog 26 4=some (66,1,false):=by kernel_rfl
theorem go252:JH Tryz.prog 252=true:=by kernel_rfl
theorem go250:JH Tryz.prog 250=true:=by kernel_rfl
instance:FO Tryz.prog 297 0 (0):=⟨by kernel_rfl⟩
instance:PB Tryz.prog 196:=⟨by kernel_rfl⟩
instance sc295:SC Tryz.prog 295:=⟨by kernel_rfl⟩
instance sl295:SL Tryz.prog 295 (299,3,24):=⟨by kernel_rfl⟩
instance:FO Tryz.prog 299 0 (0):=⟨by kernel_rfl⟩
instance sc196:SC Tryz.prog 196:=⟨by kernel_rfl⟩
theorem go242:JH Tryz.prog 242=true:=by kernel_rfl
instance:FO Tryz.prog 299 1 (2):=⟨by kernel_rfl⟩
theorem go196:JH Tryz.prog 196=true:=by kernel_rfl
instance ft297:FT Tryz.prog 297 [(0,1)]:=⟨by kernel_rfl⟩
instance ft299:FT Tryz.prog 299 [(0,2),(2,1)]:=⟨by kernel_rfl⟩
instance z297:ZE Tryz.prog 297 [.slice none 0 0]:=⟨by kernel_rfl⟩
instance z299:ZE Tryz.prog 299 [.int .i64 0,.int .i64 0,.int .i64 0]:=⟨by kernel_rfl⟩
instance ft239:FT Tryz.prog 239 [(0,1),(1,1),(2,1),(3,1)]:=⟨by kernel_rfl⟩
instance z239:ZE Tryz.prog 239 [.int .i64 0,.map none,.map none,.map none]:=⟨by kernel_rfl⟩
instance:FO Tryz.prog 239 0 (0):=⟨by kernel_rfl⟩
instance:PB Tryz.prog 131:=⟨by kernel_rfl⟩
theorem go160:JH Tryz.prog 160=true:=by kernel_rfl
instance:FO Tryz.prog 239 2 (2):=⟨by kernel_rfl⟩
instance sc237:SC Tryz.prog 237:=⟨by kernel_rfl⟩
theorem go248:JH Tryz.prog 248=true:=by kernel_rfl
instance:FO Tryz.prog 239 3 (3):=⟨by kernel_rfl⟩
instance ag201:AG Tryz.prog 201 (2):=⟨by kernel_rfl⟩
instance fo201_0:FO Tryz.prog 201 0 (0):=⟨by kernel_rfl⟩
instance fo201_1:FO Tryz.prog 201 1 (1):=⟨by kernel_rfl⟩
instance fo239_1:FO Tryz.prog 239 1 (1):=⟨by kernel_rfl⟩
theorem go157:JH Tryz.prog 157=true:=by kernel_rfl
instance sc236:SC Tryz.prog 236:=⟨by kernel_rfl⟩
instance sl243:SL Tryz.prog 243 (201,2,16):=⟨by kernel_rfl⟩
instance z201:ZE Tryz.prog 201 [.int .i64 0,.int .i64 0]:=⟨by kernel_rfl⟩
theorem sb134:slcB Tryz.prog 134=true:=by kernel_rfl
instance sc362:SC Tryz.prog 362:=⟨by kernel_rfl⟩
theorem un362:Tryz.prog.underlying 362=some (.map 3 4):=by kernel_rfl
theorem go292:JH Tryz.prog 292=true:=by kernel_rfl
theorem go100:JH Tryz.prog 100=true:=by kernel_rfl
theorem un236:Tryz.prog.underlying 236=some (.map 201 4):=by kernel_rfl
instance:FT Tryz.prog 201 [(0,1),(1,1)]:=⟨by kernel_rfl⟩
theorem un110:Tryz.prog.underlying 110=some (.map 3 3):=by kernel_rfl
theorem go201:JH Tryz.prog 201=true:=by kernel_rfl
theorem go203:JH Tryz.prog 203=true:=by kernel_rfl
instance:SC Tryz.prog 131:=⟨by kernel_rfl⟩
theorem go158:JH Tryz.prog 158=true:=by kernel_rfl
instance:FO Tryz.prog 133 0 (0):=⟨by kernel_rfl⟩
instance:AG Tryz.prog 133 (2):=⟨by kernel_rfl⟩
instance:FO Tryz.prog 133 1 (1):=⟨by kernel_rfl⟩
instance ag136:AG Tryz.prog 136 (4):=⟨by kernel_rfl⟩
instance:FO Tryz.prog 136 0 (0):=⟨by kernel_rfl⟩
instance:FO Tryz.prog 136 1 (2):=⟨by kernel_rfl⟩
instance:FO Tryz.prog 136 2 (3):=⟨by kernel_rfl⟩
instance:FT Tryz.prog 133 [(0,1),(1,1)]:=⟨by kernel_rfl⟩
instance ft136:FT Tryz.prog 136 [(0,2),(2,1),(3,1)]:=⟨by kernel_rfl⟩
instance:ZE Tryz.prog 133 [.slice none 0 0,.pointer none]:=⟨by kernel_rfl⟩
instance z136:ZE Tryz.prog 136 [.slice none 0 0,.pointer none,.slice none 0 0,.slice none 0 0]:=⟨by kernel_rfl⟩
theorem go68:JH Tryz.prog 68=true:=by kernel_rfl
theorem un35:Tryz.prog.underlying 35=some (.int .i64):=by kernel_rfl
instance:FO Tryz.prog 179 0 (0):=⟨by kernel_rfl⟩
theorem go235:JH Tryz.prog 235=true:=by kernel_rfl
instance:FO Tryz.prog 179 2 (2):=⟨by kernel_rfl⟩
instance:FO Tryz.prog 179 1 (1):=⟨by kernel_rfl⟩
instance fo183_4:FO Tryz.prog 183 4 (72):=⟨by kernel_rfl⟩
instance:FO Tryz.prog 183 5 (73):=⟨by kernel_rfl⟩
instance:FO Tryz.prog 183 6 (74):=⟨by kernel_rfl⟩
instance:FO Tryz.prog 183 0 (0):=⟨by kernel_rfl⟩
instance:FO Tryz.prog 183 3 (71):=⟨by kernel_rfl⟩
theorem go237:JH Tryz.prog 237=true:=by kernel_rfl
instance z1:ZE Tryz.prog 1 [.nilFunc]:=⟨by kernel_rfl⟩
instance:FO Tryz.prog 183 2 (70):=⟨by kernel_rfl⟩
instance:FO Tryz.prog 289 2 (2):=⟨by kernel_rfl⟩
instance:SC Tryz.prog 180:=⟨by kernel_rfl⟩
instance:FO Tryz.prog 183 1 (3):=⟨by kernel_rfl⟩
theorem go232:JH Tryz.prog 232=true:=by kernel_rfl
instance pb147:PB Tryz.prog 147:=⟨by kernel_rfl⟩
theorem go188:JH Tryz.prog 188=true:=by kernel_rfl
theorem iii32:int2 Tryz.prog 32=true:=by kernel_rfl
instance ft179:FT Tryz.prog 179 [(0,1),(1,1),(2,1)]:=⟨by kernel_rfl⟩
instance ft183:FT Tryz.prog 183 [(0,3),(3,67),(70,1),(71,1),(72,1),(73,1),(74,1)]:=⟨by kernel_rfl⟩
instance z179:ZE Tryz.prog 179 [.pointer none,.int .i64 0,.int .i64 0]:=⟨by kernel_rfl⟩
instance z183:ZE Tryz.prog 183 [.pointer none,.int .i64 0,.int .i64 0,.int .i64 0,.int .i64 0,.int .u8 0,.int .u8 0,.int .u8 0,.int .u8 0,.int .u8 0,.int .u8 0,.int .u8 0,.int .u8 0,.int .u8 0,.int .u8 0,.int .u8 0,.int .u8 0,.int .u8 0,.int .u8 0,.int .u8 0,.int .u8 0,.int .u8 0,.int .u8 0,.int .u8 0,.int .u8 0,.int .u8 0,.int .u8 0,.int .u8 0,.int .u8 0,.int .u8 0,.int .u8 0,.int .u8 0,.int .u8 0,.int .u8 0,.int .u8 0,.int .u8 0,.int .u8 0,.int .u8 0,.int .u8 0,.int .u8 0,.int .u8 0,.int .u8 0,.int .u8 0,.int .u8 0,.int .u8 0,.int .u8 0,.int .u8 0,.int .u8 0,.int .u8 0,.int .u8 0,.int .u8 0,.int .u8 0,.int .u8 0,.int .u8 0,.int .u8 0,.int .u8 0,.int .u8 0,.int .u8 0,.int .u8 0,.int .u8 0,.int .u8 0,.int .u8 0,.int .u8 0,.int .u8 0,.int .u8 0,.int .u8 0,.int .u8 0,.int .u8 0,.int .u8 0,.slice none 0 0,.pointer none,.pointer none,.int .i64 0,.int .i64 0,.bool false]:=⟨by kernel_rfl⟩
instance:FO Tryz.prog 72 2 (2):=⟨by kernel_rfl⟩
theorem fv108_0:fldV Tryz.prog 108 0=some (0,1,false):=by kernel_rfl
instance ag72:AG Tryz.prog 72 (5):=⟨by kernel_rfl⟩
instance:FO Tryz.prog 72 0 (0):=⟨by kernel_rfl⟩
instance:FO Tryz.prog 72 1 (1):=⟨by kernel_rfl⟩
instance:FO Tryz.prog 72 3 (3):=⟨by kernel_rfl⟩
instance z72:ZE Tryz.prog 72 [.int .i64 0,.int .i64 0,.int .i64 0,.int .i64 0,.int .i64 0]:=⟨by kernel_rfl⟩
theorem go107:JH Tryz.prog 107=true:=by kernel_rfl
instance ag57:AG Tryz.prog 57 (2):=⟨by kernel_rfl⟩
instance:FO Tryz.prog 57 0 (0):=⟨by kernel_rfl⟩
instance:FO Tryz.prog 57 1 (1):=⟨by kernel_rfl⟩
instance:FT Tryz.prog 57 [(0,1),(1,1)]:=⟨by kernel_rfl⟩
instance sc64:SC Tryz.prog 64:=⟨by kernel_rfl⟩
instance sl64:SL Tryz.prog 64 (57,2,16):=⟨by kernel_rfl⟩
instance z57:ZE Tryz.prog 57 [.int .i64 0,.int .u64 0]:=⟨by kernel_rfl⟩
instance ag44:AG Tryz.prog 44 (3):=⟨by kernel_rfl⟩
instance fo44_0:FO Tryz.prog 44 0 (0):=⟨by kernel_rfl⟩
instance:FO Tryz.prog 44 1 (1):=⟨by kernel_rfl⟩
instance fo44_2:FO Tryz.prog 44 2 (2):=⟨by kernel_rfl⟩
theorem go75:JH Tryz.prog 75=true:=by kernel_rfl
instance sc42:SC Tryz.prog 42:=⟨by kernel_rfl⟩
instance sl42:SL Tryz.prog 42 (72,5,40):=⟨by kernel_rfl⟩
theorem sz44:szO Tryz.prog 44=some 3:=by kernel_rfl
instance:ZE Tryz.prog 44 [.slice none 0 0,.bool false,.int .i64 0]:=⟨by kernel_rfl⟩
theorem go50:JH Tryz.prog 50=true:=by kernel_rfl
theorem go27:JH Tryz.prog 27=true:=by kernel_rfl
instance ag28:AG Tryz.prog 28 (71):=⟨by kernel_rfl⟩
theorem Qw(a b:Int)(w0:World)(ha:Pl.I64 a)(hb:Pl.I64 b):C Tryz.prog 34 [.agg #[.int .i64 a,.int .i64 b]] w0 fun v w'=>v=.bool (Pl.valid a b)∧Ext No w0 w':=by
 refine C_o Tryz.func34 fun κ _ Je Jc hm=>?_
 refine au 2 ?_
 refine bT hm fun m1 w hm=>?_
 refine au 21 ?_
 refine JK rfl rfl rfl (fun hc=>(QR rfl (gx hc rfl) (Ql (by simp at hc; omega) (by simp at hc; omega)))) ?_
 refine au 7 ?_
 exact ⟨LM Value.bool (by rw [Bool.eq_iff_iff]; simp [Pl.valid]; omega),hm.to⟩
theorem QC(a b:Int)(w0:World)(h:Pl.I64 (a+b)):C Tryz.prog 36 [.agg #[.int .i64 a,.int .i64 b]] w0 fun v w'=>v=.int .i64 (a+b)∧Ext No w0 w':=by
 refine C_o Tryz.func36 fun κ _ Je Jc hm=>?_
 refine au 2 ?_
 refine bT hm fun m1 w hm=>?_
 refine au 15 ?_
 exact ⟨rfl,hm.to⟩
theorem r1_max(w0:World):C Tryz.prog 53 [] w0 fun v w'=>v=.int .i64 4611686018427387903∧Ext No w0 w':=by
 refine C_o Tryz.func53 fun κ _ Je Jc hm=>?_
 refine au 12 ?_
 exact ⟨rfl,hm.to⟩
theorem r1_valid(a b:Int)(w0:World)(ha:Pl.I64 a)(hb:Pl.I64 b):C Tryz.prog 32 [.agg #[.int .i64 a,.int .i64 b]] w0 fun v w'=>v=.bool (Pl.valid a b)∧Ext No w0 w':=by
 refine C_o Tryz.func32 fun κ _ Je Jc hm=>?_
 refine au 2 ?_
 refine bT hm fun m1 w hm=>?_
 refine au 4 ?_
 refine dw [0,3,6,9,12,15,18,21,24,27,30,34,36,39,42,45,48,54,57,52,60,63,66,69] hm fun w hw hm0 hh hm=>?_
 refine au 11 ?_
 refine J1 rfl rfl rfl (fun hc=>rfl) go53 (fun hc=>(r1_max _)) hh fun w hE hh=>?_
 replace hm:=hm.ext hE
 refine au 7 ?_
 refine J1 rfl rfl rfl (fun hc=>rfl) go53 (fun hc=>(r1_max _)) hh fun w hE hh=>?_
 replace hm:=hm.ext hE
 refine JK rfl rfl rfl (fun hc=>(QR (gx hc rfl) (gx hc rfl) (Ql (by simp at hc; omega) (by simp at hc; omega)))) ?_
 refine au 7 ?_
 exact ⟨LM Value.bool (by rw [Bool.eq_iff_iff]; simp [Pl.valid]; omega),hm.to⟩
theorem ext_between(a b c:Int)(w0:World)(h:Pl.I64 (b-a)):C Tryz.prog 153 [.int .i64 a,.int .i64 b,.int .i64 c] w0 fun v w'=>v=.tuple ⟨[.agg ⟨exV (Pl.btw a b c)⟩,.bool (Pl.btw a b c).isSome]⟩∧Ext No w0 w':=by
 refine C_o Tryz.func153 fun κ _ Je Jc hm=>?_
 refine au 2 ?_
 refine aT hm fun m1 w hm=>?_
 refine au 13 ?_
 refine cd (fun hc0=>?_) fun hc0=>?_
 ·
  simp only [bA,bB,bC,bD,bE,bF,dT,dF] at hc0
  refine au 3 ?_
  refine st hm 0 fun w hm=>?_
  refine au 6 ?_
  exact ⟨by simp [tup,Pl.btw,hc0,exV],hm.to⟩
 ·
  simp only [bA,bB,bC,bD,bE,bF,dT,dF] at hc0
  refine au 9 ?_
  refine st hm 0 fun w hm=>?_
  refine au 5 ?_
  exact ⟨by simp [tup,Pl.btw,exV,hc0],hm.to⟩
theorem Q7(a b c e:Int)(w0:World)(h1:0≤a∧0≤b∧a+b≤9223372036854775807)(h2:0≤c∧0≤e∧c+e≤9223372036854775807):C Tryz.prog 119 [.agg #[.int .i64 a,.int .i64 b],.agg #[.int .i64 c,.int .i64 e]] w0 fun v w'=>v=.tuple ⟨[.agg ⟨exV (Pl.overlap a b c e)⟩,.bool (Pl.overlap a b c e).isSome]⟩∧Ext No w0 w':=by
 refine C_o Tryz.func119 fun κ _ Je Jc hm=>?_
 refine au 2 ?_
 refine bT hm fun m1 w hm=>?_
 refine bT hm fun m2 w hm=>?_
 refine aT hm fun m3 w hm=>?_
 refine au 4 ?_
 refine dw [0,3,6,9,12,15,21,19,25,27,31,33,2,36,40,42] hm fun w hw hm0 hh hm=>?_
 refine au 7 ?_
 refine cB rfl rfl rfl (QC _ _ _ (by omega)) hm hh fun w hm hh=>?_
 refine cB rfl rfl rfl (QC _ _ _ (by omega)) hm hh fun w hm hh=>?_
 refine au 1 ?_
 refine cB rfl rfl rfl (ext_between _ _ _ _ (by omega)) hm hh fun w hm hh=>?_
 refine au 3 ?_
 refine st hm 0 fun w hm=>?_
 refine au 5 ?_
 exact ⟨rfl,hm.to⟩
theorem ext_contains1(c e a b:Int)(m:Nat)(w0:World)(hb:w0.heap[m]?=some (Blk.row 32 [.int .i64 a,.int .i64 b]).Jd)(h1:Pl.I64 (a+b))(h2:Pl.I64 (c+e)):C Tryz.prog 312 [.agg #[.int .i64 c,.int .i64 e],.pointer (some ⟨m,0,none⟩)] w0 fun v w'=>v=.bool (!Pl.within a b c e)∧Ext No w0 w':=by
 refine C_o Tryz.func312 fun κ _ Je Jc hm=>?_
 refine au 2 ?_
 refine bT hm fun m1 w hm=>?_
 refine au 4 ?_
 refine dw [0,3,6,9,12,15,18,24,22,2,28,30,33,36] hm fun w hw hm0 hh hm=>?_
 refine au 7 ?_
 refine JK rfl rfl rfl (fun hc=>(Jm (s:=2) (vs:=[_,_]) rfl ag32.h (fun u hu=>((hm0.to.trans hu).same _ (Lb.1 hb).1 id).trans hb) rfl)) ?_
 refine J1 rfl rfl rfl (fun hc=>(J8 (gx hc rfl) QL)) go36 (fun hc=>(QC _ _ _ (by omega))) hh fun w hE hh=>?_
 replace hm:=hm.ext hE
 refine au 1 ?_
 refine J1 rfl rfl rfl (fun hc=>(J8 (gx hc rfl) QL)) go36 (fun hc=>(QC _ _ _ (by omega))) trivial fun w hE hh=>?_
 replace hm:=hm.ext hE
 refine au 7 ?_
 exact ⟨LM Value.bool (by rw [Bool.eq_iff_iff]; simp [Pl.within]),hm.to⟩
theorem idxf_ext(p:Option Addr)(cap:Nat)(xs:List (Int×Int))(fi:FuncId)(l2:List Value)(pred:(Int×Int)→Bool)(w0:World)(hx:Rd w0 p (xs.flatMap Q9))(hlen:xs.length≤9223372036854775807)(hg:JH Tryz.prog fi=true)(hf:∀ x w1,x∈xs→Ext No w0 w1→C Tryz.prog fi (.agg ⟨Q9 x⟩::l2) w1 fun v w2=>v=.bool (pred x)∧Ext No w1 w2):C Tryz.prog 280 [.slice p xs.length cap,.func (.func fi) #[] ⟨l2⟩] w0 fun v w'=>v=.int .i64 (Pl.idx pred xs)∧Ext No w0 w':=by
 refine C_o Tryz.func280 fun κ _ Je Jc hm=>?_
 refine au 14 ?_
 refine Jg (ι:=Nat) rfl (ks:=[0,1,7]) (.cons rfl (.cons rfl (.cons rfl .nil))) (fun k=>[(8,.int .i64 k)]) (fun k w=>Mem w0 w No []∧k≤xs.length∧∀ (j:Nat) y,j<k→xs[j]?=some y→pred y=false) (fun k=>xs.length-k) 0 (⟨hm,LL _,fun _ _ h=>absurd h (Nat.not_lt_zero _)⟩) ⟨rfl,trivial⟩ (fun k w hM=>?_)
 obtain ⟨hm,hk,hno⟩:=hM
 refine au 6 ?_
 refine cd (fun hc0=>?_) fun hc0=>?_
 ·
  simp only [dT] at hc0
  obtain ⟨x,hi⟩:∃ y_,xs[k]?=some y_:=⟨_,La (by omega)⟩
  obtain ⟨qb,qo,rfl⟩:=hx.atI QM (by decide) hi
  refine au 16 ?_
  refine Ja rfl rfl (JU rfl ag32.h (hx.Jj hm.to).nt QM hi) ?_
  refine Qf rfl rfl rfl rfl hg (hf x _ (Ld hi) hm.to) fun v w hR=>?_
  obtain ⟨rfl,hE⟩:=hR
  refine ⟨trivial,?_⟩
  replace hm:=hm.ext hE
  refine au 2 ?_
  refine cd (fun hc1=>?_) fun hc1=>?_
  ·
   refine au 13 ?_
   exact ⟨by rw [Pl.X8 hi hc1 hno],hm.to⟩
  ·
   refine au 7 ?_
   refine next (k+1) (by omega) ⟨hm,by omega,fun j y hj hy=>?_⟩ ⟨nx k,rfl,rfl,rfl,trivial⟩
   rcases L7 j k with h | h
   · exact hno j y h hy
   · obtain rfl:j=k:=by omega
     rw [hi] at hy; cases hy; exact hc1
 ·
  have hk:k=xs.length:=by simp at hc0; omega
  subst hk
  refine au 12 ?_
  exact ⟨by rw [Pl.YN hno],hm.to⟩
theorem conf_ext(p:Option Addr)(cap:Nat)(xs:List (Int×Int))(fi:FuncId)(l2:List Value)(pred:(Int×Int)→Bool)(w0:World)(hx:Rd w0 p (xs.flatMap Q9))(hlen:xs.length≤9223372036854775807)(hg:JH Tryz.prog fi=true)(hf:∀ x w1,x∈xs→Ext No w0 w1→C Tryz.prog fi (.agg ⟨Q9 x⟩::l2) w1 fun v w2=>v=.bool (pred x)∧Ext No w1 w2):C Tryz.prog 251 [.slice p xs.length cap,.func (.func fi) #[] ⟨l2⟩] w0 fun v w'=>v=.bool (xs.any pred)∧Ext No w0 w':=by
 refine C_o Tryz.func251 fun κ _ Je Jc hm=>?_
 refine au 9 ?_
 refine cA rfl rfl rfl (idxf_ext p cap xs fi l2 pred _ hx hlen hg hf) hm fun w hm=>?_
 refine au 6 ?_
 exact ⟨by rw [← Pl.idx_nonneg],hm.to⟩
theorem ext_contains(a b:Int)(p:Option Addr)(cap:Nat)(xs:List (Int×Int))(w0:World)(h1:Pl.I64 (a+b))(hx:Rd w0 p (xs.flatMap Q9))(hlen:xs.length≤9223372036854775807)(hok:∀ x∈xs,Pl.I64 (x.1+x.2)):C Tryz.prog 310 [.agg #[.int .i64 a,.int .i64 b],.slice p xs.length cap] w0 fun v w'=>v=.bool (xs.all fun x=>Pl.within a b x.1 x.2)∧Ext No w0 w':=by
 refine C_o Tryz.func310 fun κ _ Je Jc hm=>?_
 refine au 2 ?_
 refine bT hm fun m1 w hm=>?_
 refine au 7 ?_
 refine cA rfl rfl rfl (conf_ext p cap xs _ _ (fun x=>!Pl.within a b x.1 x.2) _ (hx.Jj hm.to) hlen go312 fun x w1 hm1 hx1=>ext_contains1 x.1 x.2 a b m1 w1 ((hx1.same _ (hm.lt (Lo)) id).trans (hm.get (k:=0) rfl)) (by omega) (hok x hm1)) hm fun w hm=>?_
 refine au 6 ?_
 exact ⟨LM Value.bool (by simp [List.all_eq_not_any_not]),hm.to⟩
theorem ext_total(p:Option Addr)(cap:Nat)(xs:List (Int×Int))(w0:World)(hx:Rd w0 p (xs.flatMap Q9))(hlen:xs.length≤9223372036854775807)(hok:∀ x∈xs,Pl.okE x):C Tryz.prog 183 [.slice p xs.length cap] w0 fun v w'=>v=.tuple ⟨[.int .i64 ((Pl.total 0 xs).getD 0),.bool (Pl.total 0 xs).isSome]⟩∧Ext No w0 w':=by
 refine C_o Tryz.func183 fun κ _ Je Jc hm=>?_
 refine au 20 ?_
 refine Jg (ι:=Nat×Int) rfl (ks:=[7,8]) (.cons rfl (.cons rfl .nil)) (fun x=>[(9,.int .i64 x.1),(4,.int .i64 x.2)]) (fun x w=>Mem w0 w No []∧x.1≤xs.length∧0≤x.2∧x.2≤4611686018427387903∧Pl.total 0 xs=Pl.total x.2 (xs.drop x.1)) (fun x=>xs.length-x.1) (0,0) (⟨hm,LL _,by simp,by simp,by simp⟩) ⟨rfl,rfl,trivial⟩ (fun x w hM=>?_)
 obtain ⟨hm,hk,hn0,hn1,ht⟩:=hM
 refine au 6 ?_
 refine cd (fun hc0=>?_) fun hc0=>?_
 ·
  simp only [dT] at hc0
  obtain ⟨el,hi⟩:∃ y_,xs[x.1]?=some y_:=⟨_,La (by omega)⟩
  obtain ⟨qb,qo,rfl⟩:=hx.atI QM (by decide) hi
  have hel:=hok el (Ld hi)
  unfold Pl.okE at hel
  refine au 7 ?_
  refine Ja rfl rfl (JU rfl ag32.h (hx.Jj hm.to).nt QM hi) ?_
  refine aT hm fun m1 w hm=>?_
  refine st hm 0 fun w hm=>?_
  refine au 17 ?_
  refine cd (fun hc1=>?_) fun hc1=>?_
  ·
   simp only [bA,bB,bC,bD,bE,bF,dT,dF] at hc1
   refine au 13 ?_
   have e:Pl.total 0 xs=none:=by rw [ht,Pl.drop_cons hi,Pl.total,LI hc1]
   rw [e]; exact ⟨rfl,hm.to⟩
  ·
   simp only [bA,bB,bC,bD,bE,bF,dT,dF] at hc1
   refine au 7 ?_
   refine next (x.1+1,x.2+el.2) (by simp only; omega) ⟨hm.tail,by simp only; omega,by simp only; omega,by simp only; omega,?_⟩ ⟨nx x.1,rfl,rfl,rfl,trivial⟩
   rw [ht,Pl.drop_cons hi,Pl.total,LH hc1]
 ·
  simp only [dF] at hc0
  have hk:x.1=xs.length:=by omega
  rw [hk,List.drop_length] at ht
  refine au 14 ?_
  have e:Pl.total 0 xs=some x.2:=by rw [ht,Pl.total]
  rw [e]; exact ⟨rfl,hm.to⟩
theorem r1_overlap(a b c e:Int)(w0:World)(h1:0≤a∧0≤b∧a+b≤9223372036854775807)(h2:0≤c∧0≤e∧c+e≤9223372036854775807):C Tryz.prog 85 [.agg #[.int .i64 a,.int .i64 b],.agg #[.int .i64 c,.int .i64 e]] w0 fun v w'=>v=.agg ⟨exV (Pl.overlap a b c e)⟩∧Ext No w0 w':=by
 refine C_o Tryz.func85 fun κ _ Je Jc hm=>?_
 refine au 2 ?_
 refine bT hm fun m1 w hm=>?_
 refine bT hm fun m2 w hm=>?_
 refine aT hm fun m3 w hm=>?_
 refine au 36 ?_
 refine cd (fun hc0=>?_) fun hc0=>?_
 ·
  simp only [bA,bB,bC,bD,bE,bF,dT,dF] at hc0
  refine au 3 ?_
  refine st hm 0 fun w hm=>?_
  refine au 5 ?_
  exact ⟨by simp only [Pl.overlap,Pl.btw]; rw [LI (by omega)]; rfl,hm.to⟩
 ·
  simp only [bA,bB,bC,bD,bE,bF,dT,dF] at hc0
  refine au 9 ?_
  refine st hm 0 fun w hm=>?_
  refine au 4 ?_
  exact ⟨by simp only [Pl.overlap,Pl.btw]; rw [LH (by omega)]; rfl,hm.to⟩
theorem ext_pieces(a b c:Int)(w0:World):C Tryz.prog 285 [.agg #[.int .i64 a,.int .i64 b],.int .i64 c] w0 fun v w'=>∃ m1 m2,v=.func (.func 304) #[] ⟨[.pointer (some ⟨m1,0,none⟩),.pointer (some ⟨m2,0,none⟩)]⟩∧Mem w0 w' No [(m2,.row 3 [.int .i64 c]),(m1,.row 32 [.int .i64 a,.int .i64 b])]:=by
 refine C_o Tryz.func285 fun κ _ Je Jc hm=>?_
 refine au 2 ?_
 refine bT hm fun m1 w hm=>?_
 refine bT hm fun m2 w hm=>?_
 refine au 11 ?_
 exact ⟨_,_,rfl,hm⟩
theorem ext_pieces1(a b c:Int)(m1 m2 yl:Nat)(I J:Nat→World→Prop)(w0:World)(hs:1≤c∧c≤9223372036854775807)(h:0≤a∧0≤b∧a+b≤4611686018427387903)
 (hcI:∀ i w,I i w→w.heap[m1]?=some (Blk.row 32 [.int .i64 (Pl.rest a b c i).1,.int .i64 (Pl.rest a b c i).2]).Jd∧w.heap[m2]?=some (Blk.row 3 [.int .i64 c]).Jd)
 (hcJ:∀ i w,J i w→w.heap[m1]?=some (Blk.row 32 [.int .i64 (Pl.rest a b c i).1,.int .i64 (Pl.rest a b c i).2]).Jd)
 (hy:∀ i w,I i w→0<(Pl.rest a b c i).2→Yw Tryz.prog yl [.agg ⟨[.int .i64 (Pl.rest a b c i).1,.int .i64 (min c (Pl.rest a b c i).2)]⟩] w fun v w'=>v=.bool true∧J i w')
 (hst:∀ i w,J i w→0<(Pl.rest a b c i).2→I (i+1) ((w.setRow m1 ⟨[.int .i64 ((Pl.rest a b c i).1+min c (Pl.rest a b c i).2),.int .i64 (Pl.rest a b c i).2]⟩).setRow m1 ⟨[.int .i64 ((Pl.rest a b c i).1+min c (Pl.rest a b c i).2),.int .i64 ((Pl.rest a b c i).2-min c (Pl.rest a b c i).2)]⟩)) (h0:I 0 w0):C Tryz.prog 304 [.func (.yield yl) #[] #[],.pointer (some ⟨m1,0,none⟩),.pointer (some ⟨m2,0,none⟩)] w0 fun v w'=>∃ i,I i w'∧(Pl.rest a b c i).2=0∧∀ j,j<i→0<(Pl.rest a b c j).2:=by
 refine Vk Tryz.func304 rfl rfl rfl fun κ _ Je Jc=>?_
 refine au 1 ?_
 refine Jg (ι:=Nat) rfl (ks:=[0,1,2]) (.cons rfl (.cons rfl (.cons rfl .nil))) (fun i=>[]) (fun i w=>I i w∧∀ j,j<i→0<(Pl.rest a b c j).2) (fun i=>(Pl.rest a b c i).2.toNat) 0 (⟨h0,fun _ h=>absurd h (Nat.not_lt_zero _)⟩) trivial (fun i w hM=>?_)
 obtain ⟨hI,hlt⟩:=hM
 obtain ⟨hb,hz⟩:=hcI _ _ hI
 have h1:=Pl.rest_sum a b c i
 have h2:=Pl.rest_le (o:=a) (i:=i) hs.1 h.2.1
 refine au 4 ?_
 refine Ja rfl rfl (Jh rfl sc3.h (Qo hb) rfl) ?_
 refine au 3 ?_
 refine cd (fun hc0=>?_) fun hc0=>?_
 ·
  simp only [dT] at hc0
  have hn:=Pl.rest_succ hs.1 hc0
  refine au 5 ?_
  refine Ja rfl rfl (Jh rfl sc3.h (Qo hz) rfl) ?_
  refine au 1 ?_
  refine Ja rfl rfl (Jh rfl sc3.h (Qo hb) rfl) ?_
  refine au 9 ?_
  refine Ja rfl rfl (Jh rfl sc3.h (Qo hb) rfl) ?_
  refine au 2 ?_
  refine XM rfl rfl rfl rfl (hy i _ hI hc0) fun v w hR=>?_
  obtain ⟨rfl,hJ⟩:=hR
  refine ⟨trivial,?_⟩
  have hb:=hcJ _ _ hJ
  refine au 9 ?_
  refine Ja rfl rfl (Jh rfl sc3.h (Qo hb) rfl) ?_
  refine au 3 ?_
  refine a_storeW rfl rfl rfl rfl sz3 rfl hb rfl ?_
  replace hb:=row_set (l':=[.int .i64 ((Pl.rest a b c i).1+min c (Pl.rest a b c i).2),.int .i64 (Pl.rest a b c i).2]) hb
  refine au 4 ?_
  refine Ja rfl rfl (Jh rfl sc3.h (Qo hb) rfl) ?_
  refine au 3 ?_
  refine a_storeW rfl rfl rfl rfl sz3 rfl hb rfl ?_
  refine au 2 ?_
  refine next (i+1) ?_ ⟨hst i _ hJ hc0,fun j hj=>?_⟩ ⟨rfl,rfl,rfl,trivial⟩
  · rw [hn]; simp only; omega
  · rcases L7 j i with h | h
    · exact hlt j h
    · obtain rfl:j=i:=by omega
      exact hc0
 ·
  simp only [bA,bB,bC,bD,bE,bF,dT,dF] at hc0
  refine au 4 ?_
  refine toN (fin Jc rfl .nil .nil ?_)
  exact ⟨i,hI,by omega,hlt⟩
theorem ext_split(a b c:Int)(w0:World)(h:0≤a∧0≤b∧a+b≤4611686018427387903)(hc:Pl.I64 c):C Tryz.prog 262 [.agg #[.int .i64 a,.int .i64 b],.int .i64 c] w0 fun v w'=>∃ p cap gg bb n,v=.slice p n cap∧(n:Int)=Pl.pieces b c∧Acc 32 2 p n cap ((List.range n).flatMap fun j=>Q9 (Pl.piece a b c j)) gg bb∧Mem w0 w' No [(gg,bb)]:=by
 refine Zt Tryz.func262 rfl rfl rfl fun κ _ Je Jc=>?_
 have hm:=Mem.start w0
 refine au 2 ?_
 refine bT hm fun m1 w hm=>?_
 refine au 16 ?_
 refine JK rfl rfl rfl (fun hc=>(QR (gx hc rfl) rfl (Ql (by omega) (by omega)))) ?_
 refine au 1 ?_
 refine JK rfl rfl rfl (fun hc=>(Yy (gx hc rfl) (gx hc rfl) (by simp at hc; omega) (tdivw (by simp at hc; omega) (by omega) (by simp at hc; omega)))) ?_
 refine au 4 ?_
 refine cd (fun hc0=>?_) fun hc0=>?_
 ·
  simp only [bA,bB,bC,bD,bE,bF,dT,dF] at hc0
  refine au 7 ?_
  refine toR (fin0 Je rfl (.tmp rfl .nil) .one ?_)
  exact ⟨none,0,0,.gap,0,rfl,by unfold Pl.pieces; rw [LI (by omega)]; rfl,.nil _ _ _ _,(hm.drop (List.nil_sublist _)).JP⟩
 ·
  simp only [bA,bB,bC,bD,bE,bF,dT,dF] at hc0
  refine au 4 ?_
  refine aT hm fun m2 w hm=>?_
  replace hm:=hm.JP
  have ha_s:=Acc.nil 32 2 none 0
  refine au 7 ?_
  refine cT rfl rfl rfl (ext_pieces _ _ _ _) fun v w hR=>?_
  obtain ⟨q1,q2,rfl,hmc⟩:=hR
  replace hm:=hm.call (A:=[]) hmc fun _ h=>h.elim
  refine au 3 ?_
  refine VJ rfl rfl go304 hm fun a_ fn r0 l w LB hLB hfr hl_ hs_ hm=>?_
  refine C.mono (ext_pieces1 a b c q1 q2 l (fun i w=>∃ p cap gg bb,Mem w0 w No ((l,LB .ready none)::(r0,dblk (some []))::(q2,.row 3 [.int .i64 c])::(q1,.row 32 [.int .i64 (Pl.rest a b c i).1,.int .i64 (Pl.rest a b c i).2])::(gg,bb)::(m2,.row 240 [.slice p i cap])::(m1,.row 32 [.int .i64 a,.int .i64 b])::[])∧Acc 32 2 p i cap ((List.range i).flatMap fun j=>Q9 (Pl.piece a b c j)) gg bb)
   (fun i w=>∃ p cap gg bb,Mem w0 w No ((l,LB .ready none)::(r0,dblk (some []))::(q2,.row 3 [.int .i64 c])::(q1,.row 32 [.int .i64 (Pl.rest a b c i).1,.int .i64 (Pl.rest a b c i).2])::(gg,bb)::(m2,.row 240 [.slice p (i+1) cap])::(m1,.row 32 [.int .i64 a,.int .i64 b])::[])∧Acc 32 2 p (i+1) cap ((List.range (i+1)).flatMap fun j=>Q9 (Pl.piece a b c j)) gg bb)
   _ (by omega) h ?_ ?_ (fun i w hI hlt=>?_) ?_ ⟨none,0,0,.gap,by rw [Pl.Y4 h.2.1]; exact hm,ha_s⟩) (fun v w hR=>?_)
  · rintro i w ⟨p,cap,gg,bb,hm,-⟩; exact ⟨hm.get (k:=3) rfl,hm.get (k:=2) rfl⟩
  · rintro i w ⟨p,cap,gg,bb,hm,-⟩; exact hm.get (k:=3) rfl
  rotate_left
  · rintro i w ⟨p,cap,gg,bb,hm,ha⟩ hlt
    have h1:=Qk (l':=[.int .i64 ((Pl.rest a b c i).1+min c (Pl.rest a b c i).2),.int .i64 (Pl.rest a b c i).2]) hm (j:=3) rfl
    have h2:=Qk (l':=[.int .i64 ((Pl.rest a b c i).1+min c (Pl.rest a b c i).2),.int .i64 ((Pl.rest a b c i).2-min c (Pl.rest a b c i).2)]) h1 (j:=3) rfl
    exact ⟨p,cap,gg,bb,by rw [Pl.rest_succ (by omega) hlt]; exact h2,ha⟩
  rotate_left
  ·
   subst hLB
   obtain ⟨p_s,cap_s,g_s,b_s,hm,ha_s⟩:=hI
   have hix:=Pl.rest_idx (o:=a) (by omega) hlt
   have hpr:=Pl.Zz hlt
   refine Yw.of hfr (hm.get (k:=0) rfl) rfl rfl ?_
   refine au 1 ?_
   refine aT hm fun m3 w hm=>?_
   refine st hm 0 fun w hm=>?_
   refine au 1 ?_
   refine Xf hm 1 rfl fun w hm=>?_
   refine XC rfl ?_
   refine JT (.pure 0 (.pure 1 (.act 2 (.act 3 (.act 4 .done))))) (by kernel_rfl) ?_
   refine Ja rfl rfl (Jh rfl sc240.h (hm.nt 6 rfl) rfl) ?_
   refine Ja rfl rfl (Jm (s:=2) (vs:=[_,_]) rfl ag32.h (hm.nt 0 rfl) rfl) ?_
   refine Jb (l:=[_,_]) rfl rfl sl240.h z32.h rfl rfl rfl rfl rfl rfl rfl hm trivial fun m4 w hg_m4 hm hh=>?_
   refine Jy rfl rfl rfl rfl rfl rfl sl240.h sl240.h z32.h rfl rfl (Rd.JL (hm.get (k:=0) rfl)) rfl ha_s hm 6 rfl (by omega) (by omega) fun p_s cap_s g_s b_s w ha_s hm=>?_
   refine st hm 7 fun w hm=>?_
   refine au 2 ?_
   refine g_end hm 2 rfl fun w hm=>?_
   refine ⟨rfl,p_s,cap_s,g_s,b_s,hm.tail.tail,?_⟩
   rw [List.range_succ,Lh]; simp only [Lk,LY,Lq]
   rw [hpr]; exact ha_s
  ·
   subst hLB
   obtain ⟨i,⟨p_s,cap_s,g_s,b_s,hm,ha_s⟩,hz,hlt⟩:=hR
   refine ⟨.ready,none,nofun,hm.get (k:=0) rfl,fun w4 hw4=>?_⟩
   replace hm:=Xw hm hw4
   refine au 9 ?_
   refine toR (fin1 Je rfl hm 0 rfl .one fun w hm=>⟨(.tmp rfl .nil),?_⟩)
   exact ⟨p_s,cap_s,g_s,b_s,i,rfl,Pl.pieces_of (by omega) (by omega) (by omega) hz hlt,ha_s,hm.tail.tail.tail.drop (List.Sublist.cons_cons _ (List.nil_sublist _))⟩
theorem V0(p:Option Addr)(cap:Nat)(xs:List UInt8)(w0:World)(hx:Rd w0 p (xs.flatMap Jk))(hlen:xs.length*1≤140737488355328):C Tryz.prog 49 [.slice p xs.length cap] w0 fun v w'=>∃ q c g b,v=.slice q xs.length c∧Acc 5 1 q xs.length c (xs.flatMap Jk) g b∧Mem w0 w' No [(g,b)]:=by
 refine C_o Tryz.func49 fun κ _ Je Jc hm=>?_
 refine au 9 ?_
 refine Ja rfl rfl (y_snil rfl rfl sb22) ?_
 refine au 2 ?_
 refine cd (fun hc0=>?_) fun hc0=>?_
 ·
  obtain rfl:p=none:=by simpa using hc0
  obtain rfl:=nilB hx
  refine au 8 ?_
  exact ⟨none,0,0,.gap,rfl,.nil _ _ _ _,hm.JP⟩
 ·
  refine au 4 ?_
  refine Jb (l:=[]) rfl rfl sl22.h z5.h rfl rfl rfl rfl rfl rfl rfl hm trivial fun m1 w hg_m1 hm hh=>?_
  refine au 1 ?_
  refine Jy rfl rfl rfl rfl rfl rfl sl22.h sl22.h z5.h rfl (Zl xs) (hx.Jj hm.to) (J0 xs) (Acc.row rfl) hm 0 rfl (by omega) (by omega) fun p_s1 cap_s1 g_s1 b_s1 w ha_s1 hm=>?_
  refine au 5 ?_
  exact ⟨p_s1,cap_s1,g_s1,b_s1,by rw [LV],by simpa only [LV,L4] using ha_s1,hm⟩
theorem eq_b(p q:Option Addr)(c1 c2:Nat)(xs ys:List UInt8)(w0:World)(hx:Rd w0 p (xs.flatMap Jk))(hy:Rd w0 q (ys.flatMap Jk))(h1:xs.length≤9223372036854775807)(h2:ys.length≤9223372036854775807):C Tryz.prog 13 [.slice p xs.length c1,.slice q ys.length c2] w0 fun v w'=>v=.bool (decide (xs=ys))∧Ext No w0 w':=by
 refine C_o Tryz.func13 fun κ _ Je Jc hm=>?_
 refine au 15 ?_
 refine cd (fun hc0=>?_) fun hc0=>?_
 ·
  simp only [dT] at hc0
  refine au 8 ?_
  exact ⟨by rw [LN fun e=>hc0 (by rw [e])],hm.to⟩
 ·
  simp only [dF] at hc0
  have hl:xs.length=ys.length:=by omega
  refine au 11 ?_
  refine Jg (ι:=Nat) rfl (ks:=[0,1,12]) (.cons rfl (.cons rfl (.cons rfl .nil))) (fun k=>[(13,.int .i64 k)]) (fun k w=>Mem w0 w No []∧k≤xs.length∧∀ (j:Nat),j<k→xs[j]?=ys[j]?) (fun k=>xs.length-k) 0 (⟨hm,LL _,fun _ h=>absurd h (Nat.not_lt_zero _)⟩) ⟨rfl,trivial⟩ (fun k w hM=>?_)
  obtain ⟨hm,hk,hno⟩:=hM
  refine au 6 ?_
  refine cd (fun hc1=>?_) fun hc1=>?_
  ·
   simp only [dT] at hc1
   obtain ⟨x,hi⟩:∃ y_,xs[k]?=some y_:=⟨_,La (by omega)⟩
   obtain ⟨qb,qo,rfl⟩:=hx.atI JG (by decide) hi
   obtain ⟨y,hj1⟩:∃ y_,ys[k]?=some y_:=⟨_,La (by omega)⟩
   obtain ⟨b2,o2,rfl⟩:=hy.atI JG (by decide) hj1
   refine au 11 ?_
   refine dw [0,3,6,9,12,15,18,21,24] hm fun w hw hm0 hh hm=>?_
   refine au 3 ?_
   refine Ja rfl rfl (J3 rfl sc5.h (hx.Jj hm0.to).nd JG hi rfl) ?_
   refine au 3 ?_
   refine Ja rfl rfl (J3 rfl sc5.h (hy.Jj hm0.to).nd JG hj1 rfl) ?_
   refine au 3 ?_
   refine cd (fun hc2=>?_) fun hc2=>?_
   ·
    simp only [bA,bB,bC,bD,bE,bF,dT,dF] at hc2
    refine au 12 ?_
    exact ⟨by rw [LN fun e=>by subst e; rw [hi] at hj1; cases hj1; exact hc2 rfl],hm.to⟩
   ·
    simp only [bA,bB,bC,bD,bE,bF,dT,dF] at hc2
    refine au 7 ?_
    refine next (k+1) (by omega) ⟨hm,by omega,fun j hj=>?_⟩ ⟨nx k,rfl,rfl,rfl,trivial⟩
    rcases L7 j k with h | h
    · exact hno j h
    · obtain rfl:j=k:=by omega
      rw [hi,hj1]; exact LM some (UInt8.toNat_inj.1 (by omega))
  ·
   simp only [dF] at hc1
   have hk:k=xs.length:=by omega
   subst hk
   refine au 12 ?_
   exact ⟨by rw [LQ (Pl.eq_of hl hno)],hm.to⟩
theorem b_equal(p q:Option Addr)(c1 c2:Nat)(xs ys:List UInt8)(w0:World)(hx:Rd w0 p (xs.flatMap Jk))(hy:Rd w0 q (ys.flatMap Jk)):C Tryz.prog 80 [.slice p xs.length c1,.slice q ys.length c2] w0 fun v w'=>v=.bool (decide (xs=ys))∧Ext No w0 w':=by
 refine C_o Tryz.func80 fun κ _ Je Jc hm=>?_
 refine au 8 ?_
 refine Ja rfl rfl (y_cvs rfl bt22_9 ((hx.Jj hm.to).nt) rfl) ?_
 refine au 1 ?_
 refine Ja rfl rfl (y_cvs rfl bt22_9 ((hy.Jj hm.to).nt) rfl) ?_
 refine Ja rfl rfl (y_seqB rfl rfl) ?_
 refine au 5 ?_
 exact ⟨rfl,hm.to⟩
theorem grow_b0(n:Nat)(w0:World)(hn:n≤140737488355328):C Tryz.prog 72 [.slice none 0 0,.int .i64 n] w0 fun v w'=>∃ p cap g b,v=.slice p 0 cap∧Acc 5 1 p 0 cap [] g b∧Mem w0 w' No [(g,b)]:=by
 refine C_o Tryz.func72 fun κ _ Je Jc hm=>?_
 refine au 12 ?_
 refine Ye rfl rfl (LN (by omega)) ?_
 refine au 7 ?_
 refine Ja rfl rfl (y_cap rfl rfl sl22.h) ?_
 refine au 3 ?_
 refine Ja rfl rfl (QR rfl rfl ((Ql (by simp <;> omega) (by simp <;> omega)).trans (by simp:(n:Int)-((0:Nat)-(0:Nat))=(n:Int)))) ?_
 refine au 9 ?_
 refine cd (fun hc1=>?_) fun hc1=>?_
 ·
  simp only [bA,bB,bC,bD,bE,bF,dT,dF] at hc1
  refine au 3 ?_
  refine Ja rfl rfl (y_cap rfl rfl sl22.h) ?_
  refine Ja rfl rfl (y_v (JE (ln:=0) (hn:=0) rfl sl22.h rfl ⟨_,rfl⟩ (LP _) (LP _) (fun h=>absurd rfl h)) (show _=Value.slice none 0 0 from rfl)) ?_
  replace hm:=hm.JP
  have ha_z:=Acc.nil 5 1 none 0
  refine au 1 ?_
  refine a_appendZ rfl rfl rfl rfl rfl rfl sl22.h it3 z5.h rfl rfl ha_z hm 0 rfl (by omega) (by omega) fun p_z cap_z g_z b_z w ha_z hm=>?_
  refine au 2 ?_
  refine Ja rfl rfl (y_v (JE (ln:=0) (hn:=0) rfl sl22.h rfl ⟨_,rfl⟩ (LP _) (LL _) (fun h=>ha_z.spot h)) (show _=Value.slice p_z 0 cap_z by rw [VR ha_z.spot]; rfl)) ?_
  refine au 11 ?_
  first | exact ⟨none,0,0,.gap,rfl,.nil _ _ _ _,hm.JP⟩ | exact ⟨p_z,cap_z,g_z,b_z,rfl,ha_z.cut0,hm⟩
 ·
  have hn0:n=0:=by simp at hc1; omega
  refine au 10 ?_
  first | exact ⟨none,0,0,.gap,rfl,.nil _ _ _ _,hm.JP⟩ | exact ⟨p_z,cap_z,g_z,b_z,rfl,ha_z.cut0,hm⟩
theorem c_of(c:Pl.Cm)(p:Option Addr)(cap:Nat)(w0:World):C Tryz.prog 152 [.agg ⟨cmV c p c.bs.length cap⟩] w0 fun v w'=>v=.agg ⟨[.int .i64 c.to,.int .i64 (Pl.clen c)]⟩∧Ext No w0 w':=by
 refine C_o Tryz.func152 fun κ _ Je Jc hm=>?_
 refine au 2 ?_
 refine bT hm fun m1 w hm=>?_
 refine aT hm fun m2 w hm=>?_
 refine au 18 ?_
 refine cd (fun hc0=>?_) fun hc0=>?_
 ·
  simp only [bA,bB,bC,bD,bE,bF,dT,dF] at hc0
  refine au 13 ?_
  refine st hm 0 fun w hm=>?_
  refine au 4 ?_
  exact ⟨by simp [Pl.clen,hc0],hm.to⟩
 ·
  simp only [bA,bB,bC,bD,bE,bF,dT,dF] at hc0
  refine au 9 ?_
  refine st hm 0 fun w hm=>?_
  refine au 4 ?_
  exact ⟨by simp [Pl.clen,hc0],hm.to⟩
theorem Vd(c:Pl.Cm)(p:Option Addr)(cap:Nat)(w0:World):C Tryz.prog 118 [.agg ⟨cmV c p c.bs.length cap⟩] w0 fun v w'=>v=.agg ⟨[.int .i64 c.to,.int .i64 (Pl.clen c)]⟩∧Ext No w0 w':=by
 refine C_o Tryz.func118 fun κ _ Je Jc hm=>?_
 refine au 2 ?_
 refine bT hm fun m1 w hm=>?_
 refine aT hm fun m2 w hm=>?_
 refine au 5 ?_
 refine cA rfl rfl rfl (c_of _ _ _ _) hm fun w hm=>?_
 refine Ja rfl rfl (QF rfl fv232_0 rfl) ?_
 refine st hm 0 fun w hm=>?_
 refine au 4 ?_
 exact ⟨rfl,hm.to⟩
theorem VI(c:Pl.Cm)(p:Option Addr)(cap:Nat)(w0:World):C Tryz.prog 95 [.agg ⟨cmV c p c.bs.length cap⟩] w0 fun v w'=>v=.tuple ⟨[.agg ⟨Q9 (Pl.csrc c)⟩,.bool (decide (c.k=1))]⟩∧Ext No w0 w':=by
 refine C_o Tryz.func95 fun κ _ Je Jc hm=>?_
 refine au 2 ?_
 refine bT hm fun m1 w hm=>?_
 refine aT hm fun m2 w hm=>?_
 refine au 11 ?_
 refine cd (fun hc0=>?_) fun hc0=>?_
 ·
  simp only [bA,bB,bC,bD,bE,bF,dT,dF] at hc0
  refine au 3 ?_
  refine st hm 0 fun w hm=>?_
  refine au 6 ?_
  exact ⟨by clear Je Jc hm; by_cases hk:c.k=1 <;> simp_all [Pl.csrc,Q9],hm.to⟩
 ·
  simp only [bA,bB,bC,bD,bE,bF,dT,dF] at hc0
  refine au 9 ?_
  refine st hm 0 fun w hm=>?_
  refine au 5 ?_
  exact ⟨by clear Je Jc hm; by_cases hk:c.k=1 <;> simp_all [Pl.csrc,Q9],hm.to⟩
theorem c_copy(a b c:Int)(w0:World):C Tryz.prog 29 [.int .i64 a,.int .i64 b,.int .i64 c] w0 fun v w'=>v=.agg ⟨cmV ⟨1,a,b,c,[]⟩ none 0 0⟩∧Ext No w0 w':=by
 refine C_o Tryz.func29 fun κ _ Je Jc hm=>?_
 refine au 2 ?_
 refine aT hm fun m1 w hm=>?_
 refine au 8 ?_
 refine st hm 0 fun w hm=>?_
 refine au 4 ?_
 exact ⟨rfl,hm.to⟩
theorem r4_len(c:Pl.Cm)(p:Option Addr)(cap:Nat)(w0:World):C Tryz.prog 87 [.agg ⟨cmV c p c.bs.length cap⟩] w0 fun v w'=>v=.int .i64 (Pl.clen c)∧Ext No w0 w':=by
 refine C_o Tryz.func87 fun κ _ Je Jc hm=>?_
 refine au 2 ?_
 refine bT hm fun m1 w hm=>?_
 refine au 11 ?_
 refine cd (fun hc0=>?_) fun hc0=>?_
 ·
  simp only [bA,bB,bC,bD,bE,bF,dT,dF] at hc0
  refine au 10 ?_
  exact ⟨by simp [Pl.clen,hc0],hm.to⟩
 ·
  simp only [bA,bB,bC,bD,bE,bF,dT,dF] at hc0
  refine au 12 ?_
  exact ⟨by simp [Pl.clen,hc0],hm.to⟩
theorem Y6(c:Pl.Cm)(p:Option Addr)(cap:Nat)(w0:World):C Tryz.prog 57 [.agg ⟨cmV c p c.bs.length cap⟩] w0 fun v w'=>v=.agg ⟨[.int .i64 c.to,.int .i64 (Pl.clen c)]⟩∧Ext No w0 w':=by
 refine C_o Tryz.func57 fun κ _ Je Jc hm=>?_
 refine au 2 ?_
 refine bT hm fun m1 w hm=>?_
 refine aT hm fun m2 w hm=>?_
 refine au 3 ?_
 refine dw [0,3,6,10,2,12,16] hm fun w hw hm0 hh hm=>?_
 refine au 3 ?_
 refine cB rfl rfl rfl (r4_len _ _ _ _) hm hh fun w hm hh=>?_
 refine au 2 ?_
 refine st hm 0 fun w hm=>?_
 refine au 4 ?_
 exact ⟨rfl,hm.to⟩
theorem r4_source(c:Pl.Cm)(p:Option Addr)(cap:Nat)(w0:World):C Tryz.prog 88 [.agg ⟨cmV c p c.bs.length cap⟩] w0 fun v w'=>v=.agg ⟨[.int .i64 c.fr,.int .i64 c.ln]⟩∧Ext No w0 w':=by
 refine C_o Tryz.func88 fun κ _ Je Jc hm=>?_
 refine au 2 ?_
 refine bT hm fun m1 w hm=>?_
 refine aT hm fun m2 w hm=>?_
 refine au 9 ?_
 refine st hm 0 fun w hm=>?_
 refine au 4 ?_
 exact ⟨rfl,hm.to⟩
theorem c_check(c:Pl.Cm)(p:Option Addr)(cap:Nat)(w0:World)(hk:Pl.okCm c)(hl:c.bs.length≤9223372036854775807):C Tryz.prog 117 [.agg ⟨cmV c p c.bs.length cap⟩] w0 fun v w'=>v=.int .i64 (Pl.ccheck c)∧Ext No w0 w':=by
 have hk1:=hk.1
 have hk2:=hk.2.1
 have hk3:=hk.2.2.1
 have hk4:=hk.2.2.2
 have hcl:=Pl.clen_i64 hk hl
 refine C_o Tryz.func117 fun κ _ Je Jc hm=>?_
 refine au 2 ?_
 refine bT hm fun m1 w hm=>?_
 refine au 16 ?_
 refine cd (fun hc0=>?_) fun hc0=>?_
 ·
  simp only [bA,bB,bC,bD,bE,bF,dT,dF] at hc0
  refine au 8 ?_
  exact ⟨LM (Value.int .i64) (by clear Je Jc hm; grind [Pl.ccheck]),hm.to⟩
 ·
  simp only [bA,bB,bC,bD,bE,bF,dT,dF] at hc0
  refine au 5 ?_
  refine cA rfl rfl rfl (c_of _ _ _ _) hm fun w hm=>?_
  refine aT hm fun m2 w hm=>?_
  refine st hm 0 fun w hm=>?_
  refine au 11 ?_
  refine cd (fun hc1=>?_) fun hc1=>?_
  ·
   simp only [bA,bB,bC,bD,bE,bF,dT,dF] at hc1
   refine au 8 ?_
   exact ⟨LM (Value.int .i64) (by clear Je Jc hm; grind [Pl.ccheck]),hm.to⟩
  ·
   simp only [bA,bB,bC,bD,bE,bF,dT,dF] at hc1
   refine au 6 ?_
   refine cA rfl rfl rfl (Qw _ _ _ (by omega) (by omega)) hm fun w hm=>?_
   refine au 11 ?_
   refine cd (fun hc2=>?_) fun hc2=>?_
   ·
    simp only [bA,bB,bC,bD,bE,bF,dT,dF] at hc2
    refine JT (.pure 0 (.pure 1 (.pure 2 (.pure 3 (.pure 4 (.pure 5 (.pure 6 (.pure 7 (.pure 8 (.pure 9 (.pure 10 (.pure 11 (.pure 12 (.act 13 (.pure 14 (.pure 15 .done)))))))))))))))) (by kernel_rfl) ?_
    refine Ja rfl rfl (Jx rfl) ?_
    refine Ja rfl rfl (Jx rfl) ?_
    refine JK rfl rfl rfl (fun hc=>(Jv rfl fo60_4.h)) ?_
    refine JK rfl rfl rfl (fun hc=>(Jh (gx hc rfl) sc22.h (hm.nt 1 rfl) rfl)) ?_
    refine JK rfl rfl rfl (fun hc=>(y_len (gx hc rfl) rfl sl22.h)) ?_
    refine JK rfl rfl rfl (fun hc=>(V3 (gx hc rfl) rfl)) ?_
    refine Ja rfl rfl (y_and rfl rfl rfl) ?_
    refine Ja rfl rfl (Jx rfl) ?_
    refine JK rfl rfl rfl (fun hc=>(Jv rfl fo60_2.h)) ?_
    refine JK rfl rfl rfl (fun hc=>(Jh (gx hc rfl) sc3.h (hm.nt 1 rfl) rfl)) ?_
    refine JK rfl rfl rfl (fun hc=>(Jv rfl fo60_3.h)) ?_
    refine JK rfl rfl rfl (fun hc=>(Jh (gx hc rfl) sc3.h (hm.nt 1 rfl) rfl)) ?_
    refine JK rfl rfl rfl (fun hc=>(Qe (cs:=[_,_]) z32.h ft32.h rfl rfl (J8 (gx hc rfl) (J8 (gx hc rfl) QL)) rfl rfl)) ?_
    refine J1 rfl rfl rfl (fun hc=>(J8 (gx hc rfl) QL)) go34 (fun hc=>(Qw _ _ _ (by omega) (by omega))) trivial fun w hE hh=>?_
    replace hm:=hm.ext hE
    refine au 11 ?_
    refine cd (fun hc3=>?_) fun hc3=>?_
    ·
     simp only [bA,bB,bC,bD,bE,bF,dT,dF] at hc3
     refine au 8 ?_
     exact ⟨LM (Value.int .i64) (by clear Je Jc hm; grind [Pl.ccheck]),hm.to⟩
    ·
     simp only [bA,bB,bC,bD,bE,bF,dT,dF] at hc3
     refine au 9 ?_
     exact ⟨LM (Value.int .i64) (by clear Je Jc hm; grind [Pl.ccheck]),hm.to⟩
   ·
    simp only [bA,bB,bC,bD,bE,bF,dT,dF] at hc2
    refine JT (.pure 0 (.pure 1 (.pure 2 (.pure 3 (.pure 4 (.pure 5 (.pure 6 (.pure 7 (.pure 8 (.pure 9 (.pure 10 (.pure 11 .done)))))))))))) (by kernel_rfl) ?_
    refine Ja rfl rfl (Jx rfl) ?_
    refine Ja rfl rfl (Jx rfl) ?_
    refine JK rfl rfl rfl (fun hc=>(Jv rfl fo60_2.h)) ?_
    refine JK rfl rfl rfl (fun hc=>(Jh (gx hc rfl) sc3.h (hm.nt 1 rfl) rfl)) ?_
    refine JK rfl rfl rfl (fun hc=>(V3 (gx hc rfl) rfl)) ?_
    refine Ja rfl rfl (y_and rfl rfl rfl) ?_
    refine Ja rfl rfl (Jx rfl) ?_
    refine JK rfl rfl rfl (fun hc=>(Jv rfl fo60_3.h)) ?_
    refine JK rfl rfl rfl (fun hc=>(Jh (gx hc rfl) sc3.h (hm.nt 1 rfl) rfl)) ?_
    refine JK rfl rfl rfl (fun hc=>(V3 (gx hc rfl) rfl)) ?_
    refine Ja rfl rfl (y_and rfl rfl rfl) ?_
    refine Ja rfl rfl (J4 rfl) ?_
    refine Qc ?_
    refine QV ?_
    refine Qb rfl ?_
    refine Qb rfl ?_
    refine JT (.pure 0 (.pure 1 .done)) (by kernel_rfl) ?_
    refine Ja rfl rfl (Jx rfl) ?_
    refine Ja rfl rfl (y_not rfl) ?_
    refine Qc ?_
    refine QV ?_
    refine cd (fun hc3=>?_) fun hc3=>?_
    ·
     simp only [bA,bB,bC,bD,bE,bF,dT,dF] at hc3
     refine au 8 ?_
     exact ⟨LM (Value.int .i64) (by clear Je Jc hm; grind [Pl.ccheck]),hm.to⟩
    ·
     simp only [bA,bB,bC,bD,bE,bF,dT,dF] at hc3
     refine au 9 ?_
     exact ⟨LM (Value.int .i64) (by clear Je Jc hm; grind [Pl.ccheck]),hm.to⟩
theorem r4_check(c:Pl.Cm)(p:Option Addr)(cap:Nat)(w0:World)(hk:Pl.okCm c)(hl:c.bs.length≤9223372036854775807):C Tryz.prog 54 [.agg ⟨cmV c p c.bs.length cap⟩] w0 fun v w'=>v=.int .i64 (Pl.ccheck c)∧Ext No w0 w':=by
 have hk1:=hk.1
 have hk2:=hk.2.1
 have hk3:=hk.2.2.1
 have hk4:=hk.2.2.2
 have hcl:=Pl.clen_i64 hk hl
 refine C_o Tryz.func54 fun κ _ Je Jc hm=>?_
 refine au 2 ?_
 refine bT hm fun m1 w hm=>?_
 refine au 16 ?_
 refine cd (fun hc0=>?_) fun hc0=>?_
 ·
  simp only [bA,bB,bC,bD,bE,bF,dT,dF] at hc0
  refine au 8 ?_
  exact ⟨LM (Value.int .i64) (by clear Je Jc hm; grind [Pl.ccheck]),hm.to⟩
 ·
  simp only [bA,bB,bC,bD,bE,bF,dT,dF] at hc0
  refine au 6 ?_
  refine cA rfl rfl rfl (r4_len _ _ _ _) hm fun w hm=>?_
  refine au 3 ?_
  refine cd (fun hc1=>?_) fun hc1=>?_
  ·
   simp only [bA,bB,bC,bD,bE,bF,dT,dF] at hc1
   refine au 8 ?_
   exact ⟨LM (Value.int .i64) (by clear Je Jc hm; grind [Pl.ccheck]),hm.to⟩
  ·
   simp only [bA,bB,bC,bD,bE,bF,dT,dF] at hc1
   refine au 6 ?_
   refine cA rfl rfl rfl (Y6 _ _ _ _) hm fun w hm=>?_
   refine cA rfl rfl rfl (r1_valid _ _ _ (by omega) (by omega)) hm fun w hm=>?_
   refine au 3 ?_
   refine cd (fun hc2=>?_) fun hc2=>?_
   ·
    simp only [bA,bB,bC,bD,bE,bF,dT,dF] at hc2
    refine au 8 ?_
    exact ⟨LM (Value.int .i64) (by clear Je Jc hm; grind [Pl.ccheck]),hm.to⟩
   ·
    simp only [bA,bB,bC,bD,bE,bF,dT,dF] at hc2
    refine au 11 ?_
    refine JK rfl rfl rfl (fun hc=>(y_len (gx hc rfl) rfl sl22.h)) ?_
    refine au 2 ?_
    refine YD rfl rfl rfl (fun hc=>(Jm (s:=5) (vs:=[_,_,_,_,_]) rfl ag60.h (hm.nt 0 rfl) rfl)) ?_
    refine a_callGG rfl rfl rfl (fun hc=>(J8 (gx hc rfl) QL)) go88 (fun hc=>(r4_source _ _ _ _)) trivial fun w hE hh=>?_
    replace hm:=hm.ext hE
    refine a_callGG rfl rfl rfl (fun hc=>(J8 (gx hc rfl) QL)) go32 (fun hc=>(r1_valid _ _ _ (by omega) (by omega))) trivial fun w hE hh=>?_
    replace hm:=hm.ext hE
    refine YD rfl rfl rfl (fun hc=>(y_not (gx hc rfl))) ?_
    refine JK rfl rfl rfl (fun hc=>(y_or (gx hc rfl) rfl (gvn hc rfl))) ?_
    refine au 3 ?_
    refine cd (fun hc3=>?_) fun hc3=>?_
    ·
     simp only [bA,bB,bC,bD,bE,bF,dT,dF] at hc3
     refine au 8 ?_
     exact ⟨LM (Value.int .i64) (by clear Je Jc hm; grind [Pl.ccheck]),hm.to⟩
    ·
     simp only [bA,bB,bC,bD,bE,bF,dT,dF] at hc3
     refine au 13 ?_
     refine YD rfl rfl rfl (fun hc=>(Jv rfl fo60_3.h)) ?_
     refine YD rfl rfl rfl (fun hc=>(Jh (gx hc rfl) sc3.h (hm.nt 0 rfl) rfl)) ?_
     refine YD rfl rfl rfl (fun hc=>(XD (gx hc rfl) rfl)) ?_
     refine JK rfl rfl rfl (fun hc=>(y_or (gx hc rfl) rfl (gvn hc rfl))) ?_
     refine au 3 ?_
     refine cd (fun hc4=>?_) fun hc4=>?_
     ·
      simp only [bA,bB,bC,bD,bE,bF,dT,dF] at hc4
      refine au 8 ?_
      exact ⟨LM (Value.int .i64) (by clear Je Jc hm; grind [Pl.ccheck]),hm.to⟩
     ·
      simp only [bA,bB,bC,bD,bE,bF,dT,dF] at hc4
      refine au 9 ?_
      exact ⟨LM (Value.int .i64) (by clear Je Jc hm; grind [Pl.ccheck]),hm.to⟩
theorem Yc(q:Option Addr)(cq:Nat)(ps:List SB)(w0:World)(hq:Rd w0 q (ps.flatMap encS))(hps:∀ s∈ps,Rd w0 s.p (s.bs.flatMap Jk))(hl:ps.length≤4611686018427387903)(hb:(ps.flatMap (·.bs)).length≤140737488355328):C Tryz.prog 45 [.slice q ps.length cq] w0 fun v w'=>∃ p n cap g b,v=.slice p n cap∧Acc 5 1 p n cap ((ps.flatMap (·.bs)).flatMap Jk) g b∧Mem w0 w' No [(g,b)]:=by
 refine C_o Tryz.func45 fun κ _ Je Jc hm=>?_
 refine au 19 ?_
 refine Jg (ι:=Nat) rfl (ks:=[0,2,9,10]) (.cons rfl (.cons rfl (.cons rfl (.cons rfl .nil)))) (fun k=>[(11,.int .i64 k),(3,.int .i64 (((ps.take k).flatMap (·.bs)).length:Nat))]) (fun k w=>Mem w0 w No []∧k≤ps.length) (fun k=>ps.length-k) 0 (⟨hm,LL _⟩) ⟨rfl,rfl,trivial⟩ (fun k w hM=>?_)
 obtain ⟨hm,hk⟩:=hM
 refine au 6 ?_
 refine cd (fun hc0=>?_) fun hc0=>?_
 ·
  simp only [dT] at hc0
  obtain ⟨s,hi⟩:∃ y_,ps[k]?=some y_:=⟨_,La (by omega)⟩
  obtain ⟨qb,qo,rfl⟩:=hq.atI V7 (by decide) hi
  have hnx:((((ps.take (k+1)).flatMap (·.bs)).length:Nat):Int)=(((ps.take k).flatMap (·.bs)).length:Nat)+s.bs.length:=by rw [LC,hi]; simp
  have hlt:=fmTake (·.bs) ps (k+1)
  refine au 7 ?_
  refine Ja rfl rfl (J3 rfl sc22.h (hq.Jj hm.to).nt V7 hi rfl) ?_
  refine au 18 ?_
  refine Ye rfl rfl (LN (by omega)) ?_
  refine au 7 ?_
  refine next (k+1) (by omega) ⟨hm,by omega⟩ ⟨nx k,by rw [hnx]; rfl,rfl,rfl,rfl,rfl,trivial⟩
 ·
  simp only [dF] at hc0
  obtain rfl:k=ps.length:=by omega
  obtain ⟨T,hT⟩:∃ T,(ps.flatMap (·.bs)).length=T:=⟨_,rfl⟩
  refine au 7 ?_
  refine Ja rfl rfl (y_v (Jx rfl) (show _=Value.int .i64 (T:Nat) by rw [Lv,hT])) ?_
  refine cT rfl rfl rfl (grow_b0 T _ (by omega)) fun v w hR=>?_
  obtain ⟨p_s,cap_s,g_s,b_s,rfl,ha_s,hmc⟩:=hR
  replace hm:=hm.Jt hmc
  refine au 12 ?_
  refine Jg (ι:=Nat×Ow) rfl (ks:=[2,25,26]) (.cons rfl (.cons rfl (.cons rfl .nil))) (fun x=>[(27,.int .i64 x.1),(6,.slice x.2.p x.2.n x.2.cap)]) (fun x w=>Mem w0 w No [(x.2.g,x.2.b)]∧Acc 5 1 x.2.p x.2.n x.2.cap (((ps.take x.1).flatMap (·.bs)).flatMap Jk) x.2.g x.2.b∧x.1≤ps.length) (fun x=>ps.length-x.1) (0,⟨p_s,_,cap_s,g_s,b_s⟩) (⟨hm,ha_s,LL _⟩) ⟨rfl,rfl,trivial⟩ (fun x w hM=>?_)
  obtain ⟨hm,ha_s,hk⟩:=hM
  refine au 6 ?_
  refine cd (fun hc2=>?_) fun hc2=>?_
  ·
   simp only [dT] at hc2
   obtain ⟨s,hi⟩:∃ y_,ps[x.1]?=some y_:=⟨_,La (by omega)⟩
   obtain ⟨qb,qo,rfl⟩:=hq.atI V7 (by decide) hi
   have hn:=ha_s.J0
   have hlt:=fmTake (·.bs) ps (x.1+1)
   have hnx:((ps.take (x.1+1)).flatMap (·.bs)).length=((ps.take x.1).flatMap (·.bs)).length+s.bs.length:=by rw [LC,hi]; simp
   refine au 7 ?_
   refine Ja rfl rfl (J3 rfl sc22.h (hq.Jj hm.to).nt V7 hi rfl) ?_
   refine au 6 ?_
   refine Jy rfl rfl rfl rfl rfl rfl sl22.h sl22.h z5.h rfl (Zl s.bs) ((hps s (Ld hi)).Jj hm.to) (J0 s.bs) ha_s hm 0 rfl (by omega) (by omega) fun p_s cap_s g_s b_s w ha_s hm=>?_
   refine au 8 ?_
   refine next (x.1+1,⟨p_s,_,cap_s,g_s,b_s⟩) (by simp only; omega) ⟨hm,ha_s.to ?_,by simp only; omega⟩ ⟨nx x.1,rfl,rfl,rfl,rfl,trivial⟩
   simp only [LC,hi,Option.toList,Lh,Lk,LY,Lq]
  ·
   simp only [dF] at hc2
   have hke:x.1=ps.length:=by omega
   rw [hke,Lv] at ha_s
   refine au 13 ?_
   exact ⟨_,_,_,_,_,rfl,ha_s,hm⟩
theorem Zg(a:Int)(q:Option Addr)(cq:Nat)(ps:List SB)(w0:World)(hq:Rd w0 q (ps.flatMap encS))(hps:∀ s∈ps,Rd w0 s.p (s.bs.flatMap Jk))(hl:ps.length≤4611686018427387903)(hb:(ps.flatMap (·.bs)).length≤140737488355328):C Tryz.prog 28 [.int .i64 a,.slice q ps.length cq] w0 fun v w'=>∃ p n cap g bb,v=.agg ⟨cmV ⟨2,a,0,0,ps.flatMap (·.bs)⟩ p n cap⟩∧Acc 5 1 p n cap ((⟨2,a,0,0,ps.flatMap (·.bs)⟩:Pl.Cm).bs.flatMap Jk) g bb∧Mem w0 w' No [(g,bb)]:=by
 refine C_o Tryz.func28 fun κ _ Je Jc hm=>?_
 refine au 2 ?_
 refine aT hm fun m1 w hm=>?_
 refine au 6 ?_
 refine cT rfl rfl rfl (Yc q cq ps _ (hq.Jj hm.to) (fun s hs=>(hps s hs).Jj hm.to) hl hb) fun v w hR=>?_
 obtain ⟨p_s,n_s,cap_s,g_s,b_s,rfl,ha_s,hmc⟩:=hR
 replace hm:=hm.Jt hmc
 refine au 1 ?_
 refine st hm 1 fun w hm=>?_
 refine au 4 ?_
 exact ⟨_,_,_,_,_,rfl,ha_s,(hm.pick [0] rfl)⟩
theorem c_has(a b c e:Int)(w0:World)(h1:Pl.I64 (a+b))(h2:Pl.I64 (c+e)):C Tryz.prog 303 [.agg ⟨[.int .i64 a,.int .i64 b]⟩,.agg ⟨[.int .i64 c,.int .i64 e]⟩] w0 fun v w'=>v=.bool (decide (0<e)&&Pl.within a b c e)∧Ext No w0 w':=by
 refine C_o Tryz.func303 fun κ _ Je Jc hm=>?_
 refine au 2 ?_
 refine bT hm fun m1 w hm=>?_
 refine bT hm fun m2 w hm=>?_
 refine au 4 ?_
 by_cases he:0<e
 ·
  refine au 3 ?_
  refine Ja rfl rfl (JA (c:=true) (XE rfl rfl) (by simpa using he)) ?_
  refine au 4 ?_
  refine Jb (l:=[_,_]) rfl rfl sl240.h z32.h rfl rfl rfl rfl rfl rfl rfl hm trivial fun m3 w hg_m3 hm hh=>?_
  refine cA rfl rfl rfl (ext_contains a b _ 1 [(c,e)] _ h1 (Rd.JL (hm.get (k:=0) rfl)) (by simp) (by simp only [Lf]; rintro _ rfl; exact h2)) hm fun w hm=>?_
  refine au 6 ?_
  exact ⟨by simp [he],hm.to⟩
 ·
  refine au 3 ?_
  refine Ja rfl rfl (JA (c:=false) (XE rfl rfl) (by simpa using he)) ?_
  refine au 12 ?_
  exact ⟨by simp [he],hm.to⟩
theorem c_part(c:Pl.Cm)(p:Option Addr)(cap:Nat)(a b:Int)(w0:World)(hc:Pl.ccheck c=0)(hr:Rd w0 p (c.bs.flatMap Jk))(hle:c.bs.length≤cap)(hsp:cap≠0→∀ ad,p=some ad→ad.spot=none)(hl:c.bs.length≤140737488355328)(he:0≤a∧0≤b∧a+b≤4611686018427387903):C Tryz.prog 284 [.agg ⟨cmV c p c.bs.length cap⟩,.agg ⟨[.int .i64 a,.int .i64 b]⟩] w0 fun v w'=>∃ p n cap g bb,v=.tuple ⟨[.agg ⟨cmV (Pl.Qu c a b) p n cap⟩,.bool (Pl.cpart c a b).isSome]⟩∧Acc 5 1 p n cap ((Pl.Qu c a b).bs.flatMap Jk) g bb∧Mem w0 w' No [(g,bb)]:=by
 have hk:=Pl.Jl hc
 refine C_o Tryz.func284 fun κ _ Je Jc hm=>?_
 refine au 2 ?_
 refine bT hm fun m1 w hm=>?_
 refine bT hm fun m2 w hm=>?_
 refine aT hm fun m3 w hm=>?_
 refine au 4 ?_
 refine JS (.pure 0 (.pure 2 (.act2 1 (.pure 3 (.act 4 (.cut (.act 5 .done)))) 4 (.act 1 (.pure 3 (.cut (.act 5 .done))))))) No mix (by kernel_rfl) hm fun w hw hm0 hh=>?_
 have hm:=hm0
 refine au 2 ?_
 refine QN ?_ ?_
 ·
  refine cB rfl rfl rfl (c_of _ _ _ _) hm hh fun w hm hh=>?_
  refine au 1 ?_
  refine al hm hh fun m4 w hg_m4 hm hh=>?_
  refine au 1 ?_
  refine st hm 0 fun w hm=>?_
  refine au 8 ?_
  refine cA rfl rfl rfl (c_has _ _ _ _ _ (by omega) (by omega)) hm fun w hm=>?_
  refine au 3 ?_
  refine cd (fun hc0=>?_) fun hc0=>?_
  ·
   have hno:¬ (0<b∧c.to≤a∧a+b≤c.to+Pl.clen c):=by simp [Pl.within] at hc0; omega
   have hp0:Pl.cpart c a b=none:=Pl.cpart_none hno
   have hpd:Pl.Qu c a b=Pl.cm0:=by unfold Pl.Qu; rw [hp0]; rfl
   refine au 3 ?_
   refine st hm 1 fun w hm=>?_
   refine au 6 ?_
   exact ⟨none,0,0,0,.gap,by rw [hpd,hp0]; rfl,by rw [hpd]; exact .nil _ _ _ _,(hm.drop (List.nil_sublist _)).JP⟩
  ·
   have hin:0<b∧c.to≤a∧a+b≤c.to+Pl.clen c:=by simp [Pl.within] at hc0; omega
   have hp0:=Pl.XA hin
   refine au 20 ?_
   refine cd (fun hc1=>?_) fun hc1=>?_
   ·
    simp only [dT] at hc1
    rw [LI hc1] at hp0
    have hpd:Pl.Qu c a b=⟨1,a,c.fr+(a-c.to),b,[]⟩:=by unfold Pl.Qu; rw [hp0]; rfl
    refine au 10 ?_
    refine cA rfl rfl rfl (c_copy _ _ _ _) hm fun w hm=>?_
    refine st hm 1 fun w hm=>?_
    refine au 6 ?_
    exact ⟨none,0,0,0,.gap,by rw [hpd,hp0]; rfl,by rw [hpd]; exact .nil _ _ _ _,(hm.drop (List.nil_sublist _)).JP⟩
   ·
    simp only [dF] at hc1
    rw [LH hc1] at hp0
    have hpd:Pl.Qu c a b=⟨2,a,0,0,(c.bs.drop (a-c.to).toNat).take b.toNat⟩:=by unfold Pl.Qu; rw [hp0]; rfl
    have hcl:((c.bs.drop (a-c.to).toNat).take b.toNat).length=b.toNat:=by rw [Lg,Lm]; omega
    have hcs:=hr.sub (l:=(a-c.to).toNat) (m:=b.toNat) hle
    refine au 3 ?_
    refine dw [0,3,6,9,12,15,18,21,24,27,31,2,34,37,39] hm fun w hw hm0 hh hm=>?_
    refine au 9 ?_
    refine Ja rfl rfl (y_v (JE (ln:=(a-c.to).toNat) (hn:=((a-c.to).toNat+b.toNat)) rfl sl22.h ⟨_,LM (fun x=>some (Value.int .i64 x)) (by omega)⟩ ⟨_,LM (fun x=>some (Value.int .i64 x)) (by omega)⟩ (by omega) (by omega) (fun h=>hsp (by omega))) (show _=Value.slice (slp p cap (a-c.to).toNat 1) ((c.bs.drop (a-c.to).toNat).take b.toNat).length (cap-(a-c.to).toNat) by rw [hcl,Kk])) ?_
    refine Jb (l:=[_]) rfl rfl sl88.h z22.h rfl rfl rfl rfl rfl rfl rfl hm hh fun m5 w hg_m5 hm hh=>?_
    refine au 1 ?_
    refine cT rfl rfl rfl (Zg a _ 1 [⟨slp p cap (a-c.to).toNat 1,cap-(a-c.to).toNat,(c.bs.drop (a-c.to).toNat).take b.toNat⟩] _ (Rd.JL (hm.get (k:=0) rfl)) (by simp only [Lf]; rintro _ rfl; exact hcs.Jj hm.to) (by simp) (by simp only [Lk,LY,Lq]; omega)) fun v w hR=>?_
    obtain ⟨p_s,n_s,cap_s,g_s,b_s,rfl,ha_s,hmc⟩:=hR
    replace hm:=hm.Jt hmc
    refine st hm 3 fun w hm=>?_
    refine au 5 ?_
    exact ⟨_,_,_,_,_,by rw [hpd,hp0]; simp only [Lk,LY,Lq] at *; rfl,by rw [hpd]; simpa using ha_s,(hm.pick [0] rfl)⟩
 ·
  refine al hm hh fun m4 w hg_m4 hm hh=>?_
  refine cB rfl rfl rfl (c_of _ _ _ _) hm hh fun w hm hh=>?_
  refine au 2 ?_
  refine st hm 0 fun w hm=>?_
  refine au 8 ?_
  refine cA rfl rfl rfl (c_has _ _ _ _ _ (by omega) (by omega)) hm fun w hm=>?_
  refine au 3 ?_
  refine cd (fun hc0=>?_) fun hc0=>?_
  ·
   have hno:¬ (0<b∧c.to≤a∧a+b≤c.to+Pl.clen c):=by simp [Pl.within] at hc0; omega
   have hp0:Pl.cpart c a b=none:=Pl.cpart_none hno
   have hpd:Pl.Qu c a b=Pl.cm0:=by unfold Pl.Qu; rw [hp0]; rfl
   refine au 3 ?_
   refine st hm 1 fun w hm=>?_
   refine au 6 ?_
   exact ⟨none,0,0,0,.gap,by rw [hpd,hp0]; rfl,by rw [hpd]; exact .nil _ _ _ _,(hm.drop (List.nil_sublist _)).JP⟩
  ·
   have hin:0<b∧c.to≤a∧a+b≤c.to+Pl.clen c:=by simp [Pl.within] at hc0; omega
   have hp0:=Pl.XA hin
   refine au 20 ?_
   refine cd (fun hc1=>?_) fun hc1=>?_
   ·
    simp only [dT] at hc1
    rw [LI hc1] at hp0
    have hpd:Pl.Qu c a b=⟨1,a,c.fr+(a-c.to),b,[]⟩:=by unfold Pl.Qu; rw [hp0]; rfl
    refine au 10 ?_
    refine cA rfl rfl rfl (c_copy _ _ _ _) hm fun w hm=>?_
    refine st hm 1 fun w hm=>?_
    refine au 6 ?_
    exact ⟨none,0,0,0,.gap,by rw [hpd,hp0]; rfl,by rw [hpd]; exact .nil _ _ _ _,(hm.drop (List.nil_sublist _)).JP⟩
   ·
    simp only [dF] at hc1
    rw [LH hc1] at hp0
    have hpd:Pl.Qu c a b=⟨2,a,0,0,(c.bs.drop (a-c.to).toNat).take b.toNat⟩:=by unfold Pl.Qu; rw [hp0]; rfl
    have hcl:((c.bs.drop (a-c.to).toNat).take b.toNat).length=b.toNat:=by rw [Lg,Lm]; omega
    have hcs:=hr.sub (l:=(a-c.to).toNat) (m:=b.toNat) hle
    refine au 3 ?_
    refine dw [0,3,6,9,12,15,18,21,24,27,31,2,34,37,39] hm fun w hw hm0 hh hm=>?_
    refine au 9 ?_
    refine Ja rfl rfl (y_v (JE (ln:=(a-c.to).toNat) (hn:=((a-c.to).toNat+b.toNat)) rfl sl22.h ⟨_,LM (fun x=>some (Value.int .i64 x)) (by omega)⟩ ⟨_,LM (fun x=>some (Value.int .i64 x)) (by omega)⟩ (by omega) (by omega) (fun h=>hsp (by omega))) (show _=Value.slice (slp p cap (a-c.to).toNat 1) ((c.bs.drop (a-c.to).toNat).take b.toNat).length (cap-(a-c.to).toNat) by rw [hcl,Kk])) ?_
    refine Jb (l:=[_]) rfl rfl sl88.h z22.h rfl rfl rfl rfl rfl rfl rfl hm hh fun m5 w hg_m5 hm hh=>?_
    refine au 1 ?_
    refine cT rfl rfl rfl (Zg a _ 1 [⟨slp p cap (a-c.to).toNat 1,cap-(a-c.to).toNat,(c.bs.drop (a-c.to).toNat).take b.toNat⟩] _ (Rd.JL (hm.get (k:=0) rfl)) (by simp only [Lf]; rintro _ rfl; exact hcs.Jj hm.to) (by simp) (by simp only [Lk,LY,Lq]; omega)) fun v w hR=>?_
    obtain ⟨p_s,n_s,cap_s,g_s,b_s,rfl,ha_s,hmc⟩:=hR
    replace hm:=hm.Jt hmc
    refine st hm 3 fun w hm=>?_
    refine au 5 ?_
    exact ⟨_,_,_,_,_,by rw [hpd,hp0]; simp only [Lk,LY,Lq] at *; rfl,by rw [hpd]; simpa using ha_s,(hm.pick [0] rfl)⟩
theorem c_clone(c:Pl.Cm)(p:Option Addr)(cap:Nat)(w0:World)(hr:Rd w0 p (c.bs.flatMap Jk))(hl:c.bs.length≤140737488355328):C Tryz.prog 39 [.agg ⟨cmV c p c.bs.length cap⟩] w0 fun v w'=>∃ p n cap g bb,v=.agg ⟨cmV c p n cap⟩∧Acc 5 1 p n cap (c.bs.flatMap Jk) g bb∧Mem w0 w' No [(g,bb)]:=by
 refine C_o Tryz.func39 fun κ _ Je Jc hm=>?_
 refine au 2 ?_
 refine bT hm fun m1 w hm=>?_
 refine aT hm fun m2 w hm=>?_
 refine au 6 ?_
 refine cT rfl rfl rfl (V0 p cap c.bs _ (hr.Jj hm.to) (by omega)) fun v w hR=>?_
 obtain ⟨p_s,cap_s,g_s,b_s,rfl,ha_s,hmc⟩:=hR
 have hg_s:b_s.real=true→_:=fun hr=>(hmc.fresh _ Lo hr).resolve_left id
 replace hm:=hm.Jt hmc
 refine au 1 ?_
 refine st hm 2 fun w hm=>?_
 refine au 5 ?_
 refine st hm 1 fun w hm=>?_
 refine au 4 ?_
 exact ⟨_,_,_,_,_,rfl,ha_s,(hm.pick [0] rfl)⟩
theorem c_overlaps(c:Pl.Cm)(p:Option Addr)(cap:Nat)(w0:World)(hc:Pl.ccheck c=0):C Tryz.prog 302 [.agg ⟨cmV c p c.bs.length cap⟩] w0 fun v w'=>v=.bool (Pl.covl c)∧Ext No w0 w':=by
 have hk:=Pl.Jl hc
 refine C_o Tryz.func302 fun κ _ Je Jc hm=>?_
 refine au 2 ?_
 refine bT hm fun m1 w hm=>?_
 refine au 6 ?_
 refine cA rfl rfl rfl (VI _ _ _ _) hm fun w hm=>?_
 refine au 3 ?_
 refine aT hm fun m2 w hm=>?_
 refine st hm 0 fun w hm=>?_
 refine au 10 ?_
 refine cd (fun hc0=>?_) fun hc0=>?_
 ·
  have hk1:¬ c.k=1:=by simpa using hc0
  refine au 8 ?_
  exact ⟨by simp [Pl.covl,hk1],hm.to⟩
 ·
  have hk1:c.k=1:=by simpa using hc0
  have hsr:Pl.csrc c=(c.fr,c.ln):=by simp [Pl.csrc,hk1]
  refine au 3 ?_
  refine JS (.pure 0 (.pure 1 (.act2 2 (.act2 3 (.pure 4 (.pure 5 (.pure 6 (.act 7 (.cut (.act 8 (.pure 9 .done))))))) 7 (.act 3 (.pure 4 (.pure 5 (.pure 6 (.cut (.act 8 (.pure 9 .done)))))))) 7 (.act 2 (.act 3 (.pure 4 (.pure 5 (.pure 6 (.cut (.act 8 (.pure 9 .done))))))))))) No mix (by kernel_rfl) hm fun w hw hm0 hh=>?_
  have hm:=hm0
  refine au 2 ?_
  refine QN ?_ ?_
  ·
   refine cB rfl rfl rfl (Vd _ _ _ _) hm hh fun w hm hh=>?_
   refine QN ?_ ?_
   ·
    refine cB rfl rfl rfl (C.eqv (Q7 c.fr c.ln c.to (Pl.clen c) _ (by omega) (by omega)) (by rw [hsr])) hm hh fun w hm hh=>?_
    refine au 3 ?_
    refine al hm hh fun m3 w hg_m3 hm hh=>?_
    refine au 1 ?_
    refine st hm 0 fun w hm=>?_
    refine au 11 ?_
    exact ⟨by
     have e:Pl.clen c=c.ln:=by simp [Pl.clen,hk1]
     simp [Pl.covl,hk1,e],hm.to⟩
   ·
    refine al hm hh fun m3 w hg_m3 hm hh=>?_
    refine cB rfl rfl rfl (C.eqv (Q7 c.fr c.ln c.to (Pl.clen c) _ (by omega) (by omega)) (by rw [hsr])) hm hh fun w hm hh=>?_
    refine au 4 ?_
    refine st hm 0 fun w hm=>?_
    refine au 11 ?_
    exact ⟨by
     have e:Pl.clen c=c.ln:=by simp [Pl.clen,hk1]
     simp [Pl.covl,hk1,e],hm.to⟩
  ·
   refine al hm hh fun m3 w hg_m3 hm hh=>?_
   refine cB rfl rfl rfl (Vd _ _ _ _) hm hh fun w hm hh=>?_
   refine cB rfl rfl rfl (C.eqv (Q7 c.fr c.ln c.to (Pl.clen c) _ (by omega) (by omega)) (by rw [hsr])) hm hh fun w hm hh=>?_
   refine au 4 ?_
   refine st hm 0 fun w hm=>?_
   refine au 11 ?_
   exact ⟨by
    have e:Pl.clen c=c.ln:=by simp [Pl.clen,hk1]
    simp [Pl.covl,hk1,e],hm.to⟩
end Go.Proofs.YtaehgpeenaomcaaGreat
