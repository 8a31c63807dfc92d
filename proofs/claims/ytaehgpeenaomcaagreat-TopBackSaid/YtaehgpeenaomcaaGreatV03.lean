/- Part 4 of the proof of TopBack: PlT PlU CyH CyB PlW PlY CyC PlJ PlP CyK CyP PtA PtE PtB PtC PtD CzB. Conditions: the hypotheses of each theorem. -/
import Derived.Test.YtaehgpeenaomcaaGreatV02
import Derived.Defers
import Derived.Recover
set_option maxRecDepth 10000
set_option maxHeartbeats 4000000
set_option linter.unusedVariables false
set_option linter.unusedSimpArgs false
namespace Go.Pl
def iX(x n:UInt32):UInt32:=(x >>> n) ||| (x <<< (32-n))
def Sc(x:UInt32):UInt32:=(iX x 7 ^^^ iX x 18) ^^^ (x >>> 3)
def Sd(x:UInt32):UInt32:=(iX x 17 ^^^ iX x 19) ^^^ (x >>> 10)
def su0(x:UInt32):UInt32:=(iX x 2 ^^^ iX x 13) ^^^ iX x 22
def su1(x:UInt32):UInt32:=(iX x 6 ^^^ iX x 11) ^^^ iX x 25
def MT(e f g:UInt32):UInt32:=(e &&& f) ^^^ (~~~e &&& g)
def CA(a b c:UInt32):UInt32:=((a &&& b) ^^^ (a &&& c)) ^^^ (b &&& c)
structure S8 where
 a:UInt32
 b:UInt32
 c:UInt32
 d:UInt32
 e:UInt32
 f:UInt32
 g:UInt32
 h:UInt32
def S8.l(s:S8):List UInt32:=[s.a,s.b,s.c,s.d,s.e,s.f,s.g,s.h]
def S8.add(s t:S8):S8:=⟨s.a+t.a,s.b+t.b,s.c+t.c,s.d+t.d,s.e+t.e,s.f+t.f,s.g+t.g,s.h+t.h⟩
def Gy(v:S8)(k w:UInt32):UInt32:=v.h+su1 v.e+MT v.e v.f v.g+k+w
def Se(v:S8):UInt32:=su0 v.a+CA v.a v.b v.c
def rnd(v:S8)(k w:UInt32):S8:=⟨Gy v k w+Se v,v.a,v.b,v.c,v.d+Gy v k w,v.e,v.f,v.g⟩
def sched(l:List UInt32):Nat→List UInt32
 | 0=>l
 | n+1=>let r:=sched l n; r++[Sd (r.getD (n+14) 0)+r.getD (n+9) 0+Sc (r.getD (n+1) 0)+r.getD n 0]
theorem XY(l:List UInt32):∀ n,(sched l n).length=l.length+n
 | 0=>rfl
 | n+1=>by simp only [sched,Lc,XY l n,Li,LA]; omega
theorem iY(l:List UInt32){i:Nat}:∀ {n m:Nat},n≤m→i<l.length+n→(sched l m)[i]?=(sched l n)[i]?
 | n,m,hnm,hi=>by
  induction m with
  | zero=>rw [show n=0 by omega]
  | succ m ih=>
   by_cases e:n=m+1
   · rw [e]
   · simp only [sched]
     rw [L3 (by rw [XY]; omega)]
     exact ih Ta
theorem Yh(l:List UInt32){i n m:Nat}(hnm:n≤m)(hi:i<l.length+n):(sched l m).getD i 0=(sched l n).getD i 0:=by
 simp only [List.getD_eq_getElem?_getD,iY l hnm hi]
theorem wq(l:List UInt32)(hl:l.length=16){n m:Nat}(h:n<m):(sched l m)[16+n]?=some (Sd ((sched l m).getD (n+14) 0)+(sched l m).getD (n+9) 0+Sc ((sched l m).getD (n+1) 0)+(sched l m).getD n 0):=by
 rw [iY l (n:=n+1) Ta Ta,Yh l (n:=n) Ta Ta,Yh l (n:=n) (i:=n+9) Ta Ta,Yh l (n:=n) (i:=n+1) Ta Ta,Yh l (n:=n) (i:=n) Ta Ta]
 simp only [sched]
 rw [L6 (by rw [XY]; omega),XY,hl,Nat.sub_self]
 rfl
def be4(a b c d:UInt8):UInt32:=(((a.toUInt32 <<< 24) ||| (b.toUInt32 <<< 16)) ||| (c.toUInt32 <<< 8)) ||| d.toUInt32
def tv(b:Th)(i:Nat):UInt32:=be4 (b.getD (4*i) 0) (b.getD (4*i+1) 0) (b.getD (4*i+2) 0) (b.getD (4*i+3) 0)
def V8(b:Th)(n:Nat):List UInt32:=(List.range n).map (tv b)
theorem VQ(b:Th)(n:Nat):(V8 b n).length=n:=by simp [V8]
theorem tw(b:Th)(n:Nat):V8 b (n+1)=V8 b n++[tv b n]:=by simp [V8,List.range_succ]
def qK:List UInt32:=[
 0x428a2f98,0x71374491,0xb5c0fbcf,0xe9b5dba5,0x3956c25b,0x59f111f1,0x923f82a4,0xab1c5ed5,0xd807aa98,0x12835b01,0x243185be,0x550c7dc3,0x72be5d74,0x80deb1fe,0x9bdc06a7,0xc19bf174,
 0xe49b69c1,0xefbe4786,0x0fc19dc6,0x240ca1cc,0x2de92c6f,0x4a7484aa,0x5cb0a9dc,0x76f988da,0x983e5152,0xa831c66d,0xb00327c8,0xbf597fc7,0xc6e00bf3,0xd5a79147,0x06ca6351,0x14292967,
 0x27b70a85,0x2e1b2138,0x4d2c6dfc,0x53380d13,0x650a7354,0x766a0abb,0x81c2c92e,0x92722c85,0xa2bfe8a1,0xa81a664b,0xc24b8b70,0xc76c51a3,0xd192e819,0xd6990624,0xf40e3585,0x106aa070,
 0x19a4c116,0x1e376c08,0x2748774c,0x34b0bcb5,0x391c0cb3,0x4ed8aa4a,0x5b9cca4f,0x682e6ff3,0x748f82ee,0x78a5636f,0x84c87814,0x8cc70208,0x90befffa,0xa4506ceb,0xbef9a3f7,0xc67178f2]
theorem GA:qK.length=64:=rfl
def Z5:S8:=⟨0x6a09e667,0xbb67ae85,0x3c6ef372,0xa54ff53a,0x510e527f,0x9b05688c,0x1f83d9ab,0x5be0cd19⟩
def fG(ks ws:List UInt32)(s:S8):Nat→S8
 | 0=>s
 | t+1=>rnd (fG ks ws s t) (ks.getD t 0) (ws.getD t 0)
def Q0(b:Th):List UInt32:=sched (V8 b 16) 48
theorem YC(b:Th):(Q0 b).length=64:=by unfold Q0; rw [XY,VQ]
theorem zI(b:Th){i:Nat}(h:i<16):(Q0 b)[i]?=some (tv b i):=by
 unfold Q0
 rw [iY (n:=0) _ Ta (by rw [VQ]; omega)]
 simp only [sched,V8]
 rw [Lt,List.getElem?_range h]
 rfl
theorem zJ(b:Th){n:Nat}(h:n<48):(Q0 b)[16+n]?=some (Sd ((Q0 b).getD (n+14) 0)+(Q0 b).getD (n+9) 0+Sc ((Q0 b).getD (n+1) 0)+(Q0 b).getD n 0):=wq _ (VQ b 16) h
def xP(s:S8)(b:Th):S8:=s.add (fG qK (Q0 b) s 64)
def Zx(s:S8)(m:Th):Nat→S8
 | 0=>s
 | n+1=>xP (Zx s m n) ((m.drop (64*n)).take 64)
theorem mD(s:S8)(m r:Th):∀ n,64*n≤m.length→Zx s (m++r) n=Zx s m n
 | 0,_=>rfl
 | n+1,h=>by
  simp only [Zx]
  rw [mD s m r n Ta,List.drop_append_of_le_length Ta,List.take_append_of_le_length (by rw [Lm]; omega)]
def mE(m:Th):S8:=Zx Z5 m (m.length/64)
def Vr(m:Th):List UInt8:=m.drop (64*(m.length/64))
theorem Zw(m:Th):(Vr m).length=m.length%64:=by unfold Vr; rw [Lm]; omega
def wu(v:Nat):Nat→List UInt8
 | 0=>[]
 | n+1=>UInt8.ofNat (v/256 ^ n)::wu v n
def ZA(n:Nat):Nat:=(119-n%64)%64
def XG(n:Nat):List UInt8:=[128]++List.replicate (ZA n) 0++wu (n*8) 8
theorem km(v:Nat):∀ n,(wu v n).length=n
 | 0=>rfl
 | n+1=>by simp [wu,km v n]
theorem zK(n:Nat):(n+(XG n).length)%64=0∧(XG n).length≤72:=by
 unfold XG ZA
 simp only [Lc,List.length_replicate,km,Li,LA]
 omega
def jB(s:S8):List UInt8:=(List.range 32).map fun i=>((s.l.getD (i/4) 0) >>> UInt32.ofNat (24-i%4*8)).toUInt8
def bu(m:Th):List UInt8:=jB (mE (m++XG m.length))
theorem Vf(s:S8):(jB s).length=32:=by simp [jB]
theorem Qz(m:Th):(bu m).length=32:=Vf _
theorem zL(m r:Th):Zx Z5 (m++r) (m.length/64)=mE m:=mD _ _ _ _ Ta
theorem wx(m r:Th):(m++r).drop (64*(m.length/64))=Vr m++r:=List.drop_append_of_le_length Ta
theorem GB{m:Th}{k:Nat}(h1:64*k≤m.length)(h2:¬ 64≤(m.drop (64*k)).length):k=m.length/64:=by
 rw [Lm] at h2; omega
theorem xQ(m:Th)(k:Nat):m.drop (64*(k+1))=(m.drop (64*k)).drop 64:=by rw [List.drop_drop,Nat.mul_add,Nat.mul_one]
theorem xR(v:Nat):∀ (n y:Nat),y<n→(wu v n)[y]?=some (UInt8.ofNat (v/256 ^ (n-1-y)))
 | n+1,0,_=>by simp [wu]
 | n+1,y+1,h=>by
  simp only [wu,LW]
  rw [xR v n y Ta,show n+1-1-(y+1)=n-1-y by omega]
theorem zM(s:S8){i:Nat}(h:i<32):(jB s)[i]?=some ((s.l.getD (i/4) 0) >>> UInt32.ofNat (24-i%4*8)).toUInt8:=by
 unfold jB
 rw [Lt,List.getElem?_range h]
 rfl
theorem QG{α:Type}{l:List α}{i:Nat}{x:α}(h:l[i]?=some x):l.take (i+1)=l.take i++[x]:=by rw [LC,h]; rfl
theorem wEq{a b:UInt32}(h:∀ i,i<32→a.toBitVec.getLsbD i=b.toBitVec.getLsbD i):a=b:=UInt32.toBitVec_inj.1 (BitVec.eq_of_getLsbD_eq h)
theorem Sf(e f g:UInt32):g ^^^ (e &&& (f ^^^ g))=MT e f g:=by
 refine wEq fun i hi=>?_
 simp only [MT,UInt32.toBitVec_xor,UInt32.toBitVec_and,UInt32.toBitVec_not,BitVec.getLsbD_xor,BitVec.getLsbD_and,BitVec.getLsbD_not,hi,decide_true,Bool.true_and]
 cases e.toBitVec.getLsbD i <;> cases f.toBitVec.getLsbD i <;> cases g.toBitVec.getLsbD i <;> rfl
theorem MU(a b c:UInt32):(a &&& b) ||| (c &&& (a ||| b))=CA a b c:=by
 refine wEq fun i hi=>?_
 simp only [CA,UInt32.toBitVec_xor,UInt32.toBitVec_and,UInt32.toBitVec_or,BitVec.getLsbD_xor,BitVec.getLsbD_and,BitVec.getLsbD_or]
 cases a.toBitVec.getLsbD i <;> cases b.toBitVec.getLsbD i <;> cases c.toBitVec.getLsbD i <;> rfl
theorem Sg(v:S8)(k w:UInt32):v.h+su1 v.e+(v.g ^^^ (v.e &&& (v.f ^^^ v.g)))+k+w=Gy v k w:=by rw [Sf]; rfl
theorem Sh(v:S8):su0 v.a+((v.a &&& v.b) ||| (v.c &&& (v.a ||| v.b)))=Se v:=by rw [MU]; rfl
theorem GC(a b c d:UInt32):a+(b+c+d)=d+c+b+a:=by
 rw [UInt32.add_comm a,UInt32.add_comm (b+c) d,UInt32.add_comm b c,← UInt32.add_assoc]
structure Ring(r ws:List UInt32)(t:Nat):Prop where
 len:r.length=16
 get:∀ i,i<64→t≤i+16→(i<t∨i<16)→r[i%16]?=ws[i]?
theorem Ring.start(b:Th):Ring (V8 b 16) (Q0 b) 0:=⟨VQ _ _,fun i h0 h1 h2=>by
 have:i<16:=by omega
 rw [zI b this,Nat.mod_eq_of_lt this]
 simp only [V8]
 rw [Lt,List.getElem?_range this]
 rfl⟩
theorem Ring.I3{r ws:List UInt32}{t:Nat}(h:Ring r ws t)(ht:t<16):Ring r ws (t+1):=⟨h.len,fun i h0 h1 h2=>h.get i h0 Ta Ta⟩
theorem Ring.I4{r ws:List UInt32}{t:Nat}{x:UInt32}(h:Ring r ws t)(h16:16≤t)(ht:t<64)(hx:ws[t]?=some x):Ring (r.set (t%16) x) ws (t+1):=⟨by rw [List.length_set]; exact h.len,fun i h0 h1 h2=>by
 rw [List.getElem?_set]
 by_cases e:t%16=i%16
 · have:t=i:=by omega
   subst this
   rw [LI rfl,LI (by rw [h.len]; omega),hx]
 · rw [LH e]
   exact h.get i h0 Ta Ta⟩
theorem Ring.at{r ws:List UInt32}{t:Nat}(h:Ring r ws t)(hw:ws.length=64){i j:Nat}(h0:i<64)(h1:t≤i+16)(h2:i<t∨i<16)(hj:j=i%16):r[j]?=some (ws.getD i 0):=by
 rw [hj,h.get i h0 h1 h2,List.getD_eq_getElem?_getD,La Ta]
 rfl
theorem px(b:Th){t:Nat}(h16:16≤t)(ht:t<64):(Q0 b)[t]?=some ((Q0 b).getD (t-16) 0+(Sc ((Q0 b).getD (t-15) 0)+(Q0 b).getD (t-7) 0+Sd ((Q0 b).getD (t-2) 0))):=by
 have h:=zJ b (n:=t-16) Ta
 rw [show 16+(t-16)=t by omega,show t-16+14=t-2 by omega,show t-16+9=t-7 by omega,show t-16+1=t-15 by omega] at h
 rw [h,GC]
end Go.Pl
namespace Go.Pl
def pr:Nat→List Nat
 | 0=>[]
 | i+1=>bif (pr i).all (fun q=>!Nat.beq ((i+2)%q) 0) then pr i++[i+2] else pr i
def Si:List UInt8:=[48,49,50,51,52,53,54,55,56,57,97,98,99,100,101,102]
def hx(n:Nat):UInt8:=Si.getD n 0
def hxI(c:UInt8):Int:=idx (fun y=>decide (c=y)) Si
def Sj(c:UInt8):Bool:=decide (0≤hxI c)
def Sl(c:UInt8):UInt8:=UInt8.ofNat (hxI c).toNat
def RH(xs:Th):Bool:=decide (xs.length=64)&&xs.all Sj
end Go.Pl
namespace Go.Cx
open Go
theorem Rd.Sm{w:World}{p:Tg}{xs:Th}{cap m:Nat}(h:Rd w p (xs.flatMap Jk))(eQ:xs.length≤cap):Rd w (Cx.bP p cap 0 1) ((xs.take m).flatMap Jk):=by
 have:=h.sub (l:=0) (m:=m) eQ
 rwa [List.drop_zero] at this
theorem Acc.GD{e es n cap g:Nat}{b:ag}{p:Tg}{cells:Ti}(h:Acc e es p n cap cells g b)(hn:cells≠[]):p=some ⟨g,0,none⟩∧b.real=true:=by
 rcases h.cases' with ⟨h1,_,_⟩ | ⟨l,h1,rfl,_⟩
 · have:=h.len
   rw [h1,Nat.zero_mul] at this
   exact absurd (Ll.1 this) hn
 · exact ⟨h1,rfl⟩
theorem mz(xs:Th)(m:Nat):(xs.flatMap Jk).drop (m*1)=(xs.drop m).flatMap Jk:=by
 rw [Cn,Cn,Nat.mul_one,List.map_drop]
theorem jay(a b:Nat)(h:a≤9223372036854775807)(hb:0<b):IntKind.i64.wrap ((a:Int).tdiv (b:Int))=((a/b:Nat):Int):=by
 have e:(a:Int).tdiv (b:Int)=((a/b:Nat):Int):=by
  rw [Int.tdiv_eq_ediv_of_nonneg Ta]; norm_cast
 have:=Nat.div_le_self a b
 rw [e]
 generalize a/b=c at this ⊢
 exact Ql Ta Ta
theorem Sn(a b:Nat):(a:Int).tmod (b:Int)=((a%b:Nat):Int):=by
 rw [Int.tmod_eq_emod_of_nonneg Ta]; norm_cast
theorem Mem.mF{w0 w:World}{X:Bs}{L:Tf}{p:Tg}{cs:Ti}(hm:Mem w0 w X L)(hR:Rd w0 p cs)(hX:cs≠[]→∀ ad,p=some ad→¬ X ad.block):cs≠[]→∀ ad,p=some ad→¬ Mn (ak L) ad.block:=fun h ad e hn=>by
 have h1:=hR.lt h ad e
 obtain ⟨b,hb,hr⟩:=JD.1 hn
 rcases hm.fresh _ hb hr with h2 | h2
 · exact hX h ad e h2
 · simp only at h2; omega
theorem Mem.jaz{w0 w:World}{X:Bs}{A Z:Tf}{cs:Ti}{p:Tg}{g:Nat}{b:ag}{e es n cap:Nat}(hm:Mem w0 w X (A++Z))(ha:Acc e es p n cap cs g b)(k:Nat)(hk:aR A k=some (g,b)):cs≠[]→∀ ad,p=some ad→¬ Mn (ak Z) ad.block:=fun hn ad e h9=>by
 have q9:=ha.GD hn
 rw [q9.1] at e
 cases e
 exact Mem.qG (A:=A) hm hk q9.2 h9
theorem Mem.jaA{w0 w:World}{X:Bs}{A Z:Tf}{cs:Ti}{m o:Nat}{b:ag}(hm:Mem w0 w X (A++Z))(k:Nat)(hk:aR A k=some (m,b))(hb:b.real=true:=by rfl):cs≠[]→∀ ad,(some ⟨m,o,none⟩:Tg)=some ad→¬ Mn (ak Z) ad.block:=fun _ ad e h9=>by
 cases e
 exact Mem.qG (A:=A) hm hk hb h9
theorem Mem.Sp{w0 w:World}{X:Bs}{A Z Z2:Tf}{cs:Ti}{m o:Nat}{b:ag}(hm:Mem w0 w X (A++(Z++Z2)))(k:Nat)(hk:aR A k=some (m,b))(hb:b.real=true:=by rfl):cs≠[]→∀ ad,(some ⟨m,o,none⟩:Tg)=some ad→¬ Mn (ak Z) ad.block:=fun h ad e h9=>hm.jaA (A:=A) k hk hb h ad e (xK h9)
theorem xS(ps:List SB)(i:Nat):((ps.take i).flatMap (·.bs)).length≤(ps.flatMap (·.bs)).length:=by
 conv=>rhs; rw [← Ke i ps,Lh,Lc]
 omega
end Go.Cx
namespace Go.Cx
open Go
theorem GF{n:Nat}:IntKind.u64.wrap (n:Int)=((n%18446744073709551616:Nat):Int):=by
 simp only [IntKind.wrap,IntKind.signed,IntKind.bits,Bool.false_and,L0,if_false]
 omega
theorem jaB{n:Nat}(h:n≤9223372036854775807):IntKind.i64.wrap (n:Int)=(n:Int):=Ql Ta Ta
theorem xT(n:Nat)(h:n<18446744073709551616):(BitVec.ofInt 64 (n:Int)).toNat=n:=by
 rw [BitVec.ofInt_natCast,BitVec.toNat_ofNat]; exact Nat.mod_eq_of_lt h
theorem gK{n:Nat}(h:n<9223372036854775808):IntKind.i64.wrap ((BitVec.ofInt IntKind.i64.bits (n:Int) &&& BitVec.ofInt IntKind.i64.bits (15:Int)).toNat:Int)=((n%16:Nat):Int):=by
 have e:(BitVec.ofInt IntKind.i64.bits (n:Int) &&& BitVec.ofInt IntKind.i64.bits (15:Int)).toNat=n%16:=by
  show (BitVec.ofInt 64 (n:Int) &&& BitVec.ofInt 64 (((15:Nat)):Int)).toNat=n%16
  rw [BitVec.toNat_and,xT n Ta,xT 15 Tb]
  exact Nat.and_two_pow_sub_one_eq_mod n 4
 rw [e]; exact jaB Ta
theorem Sq{k n:Nat}(h:n<18446744073709551616)(m:Nat)(hm:m+1=2 ^ k)(hk:k≤32):IntKind.u64.wrap ((BitVec.ofInt IntKind.u64.bits (n:Int) &&& BitVec.ofInt IntKind.u64.bits (m:Int)).toNat:Int)=((n%2 ^ k:Nat):Int):=by
 have hp:2 ^ k≤2 ^ 32:=Nat.pow_le_pow_right Tb hk
 have FA:m<18446744073709551616:=by
  have:(2:Nat) ^ 32=4294967296:=rfl
  omega
 have e:(BitVec.ofInt IntKind.u64.bits (n:Int) &&& BitVec.ofInt IntKind.u64.bits (m:Int)).toNat=n%2 ^ k:=by
  show (BitVec.ofInt 64 (n:Int) &&& BitVec.ofInt 64 (m:Int)).toNat=_
  rw [BitVec.toNat_and,xT n h,xT m FA,show m=2 ^ k-1 by omega]
  exact Nat.and_two_pow_sub_one_eq_mod n k
 rw [e,GF]
 have:=Nat.mod_le n (2 ^ k)
 congr 1
 exact Nat.mod_eq_of_lt Ta
theorem Sr{n k:Nat}{j:Int}(hj:j=(k:Int))(hk:k≤64):(n:Int).fdiv (2 ^ (min j.toNat IntKind.u64.bits))=((n/2 ^ k:Nat):Int):=by
 subst hj
 rw [show min (k:Int).toNat IntKind.u64.bits=k by show min _ 64=_; omega,I2,Nat.shiftRight_eq_div_pow]
theorem Ss{a b:Nat}(h:a*b<18446744073709551616):IntKind.u64.wrap ((a:Int)*(b:Int))=((a*b:Nat):Int):=by
 have e:(a:Int)*(b:Int)=((a*b:Nat):Int):=by norm_cast
 rw [e,GF,Nat.mod_eq_of_lt h]
theorem Su{a b:Nat}(h:b≤a)(h2:a<18446744073709551616):IntKind.u64.wrap ((a:Int)-(b:Int))=((a-b:Nat):Int):=by
 have e:(a:Int)-(b:Int)=((a-b:Nat):Int):=by omega
 rw [e,GF,Nat.mod_eq_of_lt Ta]
theorem MV{α:Type}{enc:α→Ti}(f:α→Value)(he:∀ x,enc x=[f x]):∀ (xs:List α) (i:Nat) (y:α),aU (xs.flatMap enc) (0+i*1) [f y]=(xs.set i y).flatMap enc
 | [],i,y=>by simp [aU,za]
 | x::r,0,y=>by simp [aU,he,za]
 | x::r,i+1,y=>by
  have:=MV f he r i y
  simp only [LV,Nat.mul_one,aU] at this ⊢
  simp only [Lk,he,List.cons_append,L4,za,List.set_cons_succ,this]
theorem jaC{α:Type}{enc:α→Ti}(f:α→Value)(he:∀ x,enc x=[f x]){xs:List α}{i:Nat}{y:α}(h:xs[i]?=some y):nth (xs.flatMap enc) (0+i*1)=some (f y):=by
 rw [XN,LV]
 have:=YR (enc:=enc) (es:=1) (fun x=>by rw [he]; rfl) xs i 0 y h Tb
 rw [Nat.add_zero] at this
 rw [this,he]; rfl
theorem setW(xs:List UInt32)(i:Nat)(y:UInt32):aU (xs.flatMap Zn) (0+i*1) [.int .u32 (y.toNat:Int)]=(xs.set i y).flatMap Zn:=MV (fun x:UInt32=>.int .u32 (x.toNat:Int)) (fun _=>rfl) xs i y
theorem wy{xs:List UInt32}{i:Nat}{y:UInt32}(h:xs[i]?=some y):nth (xs.flatMap Zn) (0+i*1)=some (.int .u32 (y.toNat:Int)):=jaC (fun x:UInt32=>.int .u32 (x.toNat:Int)) (fun _=>rfl) h
theorem Sv(xs:Th)(i:Nat)(y:UInt8):aU (xs.flatMap Jk) (0+i*1) [.int .u8 (y.toNat:Int)]=(xs.set i y).flatMap Jk:=MV (fun x:UInt8=>.int .u8 (x.toNat:Int)) (fun _=>rfl) xs i y
theorem CB(xs:List UInt32):(xs.flatMap Zn).length=xs.length*1:=JW Cu xs
theorem I5(xs:Th):(xs.flatMap Jk).length=xs.length:=by rw [J0,Nat.mul_one]
theorem py{α:Type}{xs:List α}{z y:α}{i n:Nat}(hl:xs.length=i)(hi:i<n):(xs++List.replicate (n-i) z).set i y=(xs++[y])++List.replicate (n-(i+1)) z:=by
 rw [List.set_append_right _ _ Ta,hl,Nat.sub_self,show n-i=(n-(i+1))+1 by omega,List.replicate_succ,List.set_cons_zero,Lp]
 rfl
theorem Sw{l:Ti}{m:Nat}:∀ (j:Nat) v,(l.take m)[j]?=some v→l[0+0*1+j]?=some v:=fun j v hj=>by
 rw [LF] at hj
 split at hj
 · simpa using hj
 · cases hj
section
variable {P:Program}{md:Md}{w:World}{n:Nat}{D:List Deferred}{S:Tk}{dst:Option Tmp}{ty:TypeId}{pos:String}{af:Array Edge}{g:Option (Nat×Bool)}
theorem tx{T an e:Nat}{x y:Operand}{cs:Ti}{k':IntKind}{j:Nat}{v:Value}(hx:ev S x=some (.agg ⟨cs⟩))(hy:ev S y=some (.int k' (j:Int)))(hT:qj P T=some (an,e,1))(hs:qi P e=true)(h1:j<an)(hv:nth cs (0+j*1)=some v) :
 ∀ a,Fr a n D S→Yl P md w a ⟨dst,.index T x y,ty,pos,af,g⟩ v:=fun a hf u _=>by
 obtain ⟨hu,i,hi,hsz⟩:=iO hT
 have jaD:(sizeOf e).run P u=.ok 1 u:=by simp [sizeOf,typeInfo,hi,hsz]
 have hag:=YE (w:=u) hs
 have h1':(j:Int)<an:=by omega
 rw [XN,LV,Nat.mul_one] at hv
 simp [execOp,hf.eval hx,hf.eval hy,Instr.index,asIntOf,JC hu,h1',jaD,part,hag,hv]
 exact fun h=>absurd h Ta
theorem Yx{T an e es:Nat}{x:Operand}{lo hi:Option Operand}{m off ln hn:Nat}(hx:ev S x=some (.pointer (some ⟨m,off,none⟩)))(hT:qj P T=some (an,e,es))
 (lv:(match lo with | none=>ln=0 | some y=>∃ k',ev S y=some (.int k' ln)) ) (lx:(match hi with | none=>hn=an | some y=>∃ k',ev S y=some (.int k' hn))) (h1:ln≤hn) (h2:hn≤an) (h3:ln<an) :
 ∀ a,Fr a n D S→Yl P md w a ⟨dst,.slice T x lo hi none,ty,pos,af,g⟩ (.slice (some ⟨m,off+ln*es,none⟩) (hn-ln) (an-ln)):=fun a hf u _=>by
 obtain ⟨hu,i,PG,hs⟩:=iO hT
 have hsz:(sizeOf e).run P u=.ok es u:=by simp [sizeOf,typeInfo,PG,hs]
 have hb:(Instr.sliceBounds false an an (lo.map a.eval) (hi.map a.eval) none).run P u=.ok (ln,hn,an) u:=by
  have e1:∀ (k':IntKind) (m y:Nat) (cd:BoundsCode),m≤y→(Instr.sliceBound (.int k' m) y cd).run P u=.ok m u:=fun k' m y cd h=>by
   have h':(m:Int)≤y:=by omega
   simp [Instr.sliceBound,asIntOf,h']
  unfold Instr.sliceBounds
  cases lo with
  | none=>
   subst lv
   cases hi with
   | none=>subst lx; simp
   | some y=>obtain ⟨k',hy⟩:=lx; simp [hf.eval hy,e1 k' hn an _ h2]
  | some z=>
   obtain ⟨k2,hz⟩:=lv
   cases hi with
   | none=>subst lx; simp [hf.eval hz,e1 k2 ln _ _ h1]
   | some y=>obtain ⟨k',hy⟩:=lx; simp [hf.eval hy,hf.eval hz,e1 k' hn an _ h2,e1 k2 ln _ _ h1]
 have hp:(if an=ln then (⟨m,off,none⟩:Addr) else (⟨m,off,none⟩:Addr).add (ln*es))=⟨m,off+ln*es,none⟩:=by
  rw [LH Ta]
  unfold Addr.add; split
  · rename_i h; rw [h]; simp
  · simp
 simp only [execOp,hf.eval hx,Option.map_none,Instr.sliceAt,Sem.run_bind,JC hu,Result.andThen_ok,Instr.sureAddr,hb,hsz,Sem.run_pure,hp]
end
section
variable {P:Program}{r:Option Nat}{k:Ks}{ops:Array Oper}{md:Md}{n:Nat}{D:List Deferred}{S:Tk}{w:World}{i:Nat}{t:Tr}
variable {ty:TypeId}{pos:String}{af:Array Edge}{g:Option (Nat×Bool)}{dst:Option Tmp}{d:Nat}{w0:World}{X:Bs}{L:Tf}
theorem zN{T e e2 es bs:Nat}{ts:Array TypeId}{ty:TypeId}{g o dl dc sl sc:Nat}{q:Tg}{l src:Ti}(hT:QH P T=some (e,es,bs))(dU:ts[0]?=some T)(hg:w.heap[g]?=some (ag.row e2 l).Jd)(b7:o+dl*es≤l.length)(hq:Rd w q src)(hs:src.length=min sl dl*es)(h1:src.all (·.oneCell')=true) :
 (Builtin.copy_ ts ty #[.slice (some ⟨g,o,none⟩) dl dc,.slice q sl sc]).run P w=.ok (.int .i64 (min sl dl:Nat)) (w.setRow g ⟨aU l o src⟩):=by
 obtain ⟨hu,i,hi,hsz,BI⟩:=Qq hT
 have er:∀ u:World,(sizeOf e).run P u=.ok es u:=fun u=>by simp [sizeOf,typeInfo,hi,hsz]
 have hf:=Q4 (P:=P) (len:=sl) (cap:=sc) hq hs
 have B4:Nat.min sl dl=min sl dl:=rfl
 have hle:o+src.length≤l.length:=by
  rw [hs]
  have:min sl dl*es≤dl*es:=Lr _ (Nat.min_le_right _ _)
  omega
 have cF:=run_storeCells_at P g o e2 src 0 ⟨l⟩ w hg (by simpa using hle) (by simpa using h1)
 simp only [Nat.add_zero] at cF
 rw [← QT src l o hle] at cF
 unfold Builtin.copy_
 simp only [dU,List.getElem?_toArray,L2,LW,Sem.run_bind,JC hu,Result.andThen_ok,er,Sem.run_pure,Builtin.lenOf,hf,cF,B4]
 rfl
theorem GG{T e e2 es bs:Nat}{x y:Operand}{ts:Array TypeId}{q:Tg}{o dl dc sl sc gg:Nat}{l src:Ti}
 (ho:eL ops S i=some (⟨dst,.call ⟨.builtin .copy,#[x,y],ts⟩,ty,pos,af,g⟩,d)) (hd:Nat.blt d n=true) (hx:ev S x=some (.slice (some ⟨gg,o,none⟩) dl dc)) (hy:ev S y=some (.slice q sl sc)) (dU:ts[0]?=some T)
 (hT:QH P T=some (e,es,bs)) (hm:Mem w0 w X L) (j:Nat) (hj:aR L j=some (gg,.row e2 l)) (b7:o+dl*es≤l.length) (hq:Rd w q src) (hs:src.length=min sl dl*es) (h1:src.all (·.oneCell')=true)
 (h:∀ w',Mem w0 w' X (Qr L j (.row e2 (aU l o src)))→HR P r k ops none n D ((d,.int .i64 (min sl dl:Nat))::S) t w'):HR P r k ops none n D S (.act i t) w:=by
 have aN:=zN (P:=P) (ty:=ty) (dc:=dc) (sc:=sc) hT dU (hm.get hj) b7 hq hs h1
 refine Vv ho hd rfl (fun a hf=>?_) trivial (h _ (Qk hm hj))
 simp only [execOp,resolve,List.map_toArray,Ka,List.map_nil,hf.eval hx,hf.eval hy,Sem.run_bind,Sem.run_pure,Result.andThen_ok,invoke,builtin,aN]
end
structure ek(e es:Nat)(p:Tg)(n cap:Nat)(cells:Ti)(g:Nat)(b:ag):Prop where
 len:cells.length=n*es
 cases':(n=0∧cap=0)∨(∃ l o,p=some ⟨g,o,none⟩∧b=.row e l∧n≤cap∧o+cap*es≤l.length∧(l.drop o).take (n*es)=cells)
theorem Acc.o{e es n cap g:Nat}{b:ag}{p:Tg}{cells:Ti}(h:Acc e es p n cap cells g b):ek e es p n cap cells g b:=
 ⟨h.len,h.cases'.elim (fun h=>.inl ⟨h.1,h.2.1⟩) fun ⟨l,h1,h2,h3,h4,h5⟩=>.inr ⟨l,0,h1,h2,h3,Ta,by simpa using h5⟩⟩
theorem ek.le{e es n cap g:Nat}{b:ag}{p:Tg}{cells:Ti}(h:ek e es p n cap cells g b):n≤cap:=by
 rcases h.cases' with ⟨h1,h2⟩ | ⟨l,o,h1,h2,h3,h4,h5⟩ <;> omega
theorem ek.spot{e es n cap g:Nat}{b:ag}{p:Tg}{cells:Ti}(h:ek e es p n cap cells g b)(hc:cap≠0):∀ ad,p=some ad→ad.spot=none:=fun ad e=>by
 rcases h.cases' with ⟨h1,h2⟩ | ⟨l,o,h1,h2,h3,h4,h5⟩
 · omega
 · rw [h1] at e; cases e; rfl
theorem ek.MF{e es n cap g:Nat}{b:ag}{p:Tg}{cells:Ti}{w0 w:World}{X:Bs}{L:Tf}(h:ek e es p n cap cells g b)(hm:Mem w0 w X L)(cR:(g,b)∈L):Rd w p cells:=by
 rcases h.cases' with ⟨h1,_⟩ | ⟨l,o,rfl,rfl,_,h4,h5⟩
 · have hl:=h.len
   rw [h1,Nat.zero_mul] at hl
   have:cells=[]:=Ll.1 hl
   subst this
   cases p with
   | none=>rfl
   | some a=>exact ⟨fun h=>absurd rfl h,Tc⟩
 · exact Rd.row (hm.own _ cR rfl) fun j v hj=>by
    rw [← h5,LF] at hj
    split at hj
    · simpa using hj
    · cases hj
theorem ek.cut{e es n cap g m:Nat}{b:ag}{p:Tg}{cells:Ti}(h:ek e es p n cap cells g b)(hm:m≤n):ek e es (bP p cap m es) (n-m) (cap-m) (cells.drop (m*es)) g b:=by
 have hl:=h.len
 refine ⟨by rw [Lm,hl,Nat.sub_mul],?_⟩
 rcases h.cases' with ⟨h1,h2⟩ | ⟨l,o,rfl,rfl,h3,h4,h5⟩
 · exact .inl ⟨Ta,Ta⟩
 · by_cases hc:cap=m
   · exact .inl ⟨Ta,Ta⟩
   · refine .inr ⟨l,o+m*es,by unfold bP; rw [LH hc]; rfl,rfl,Ta,?_,?_⟩
     · have:m*es+(cap-m)*es=cap*es:=by rw [← Kh]; congr 1; omega
       omega
     · rw [← h5,List.drop_take,List.drop_drop,Nat.sub_mul]
theorem ek.append{T e es bs:Nat}{ts:Array TypeId}{ty:TypeId}{p q:Tg}{n cap m c g:Nat}{b:ag}{cells new z:Ti}{w0 w:World}{X:Bs}{L:Tf}{P:Program}(hT:QH P T=some (e,es,bs))(dU:ts[0]?=some T){T2:TypeId}{x2:TypeId×Nat×Nat}(dQ:ts[1]?=some T2)(oO:QH P T2=some x2)
 (hz:iF P e=some z) (cV:z.length=es) (h1:new.all (·.oneCell')=true) (hq:Rd w q new) (bR:new.length=m*es) (ha:ek e es p n cap cells g b) (hm:Mem w0 w X L) (j:Nat) (hj:aR L j=some (g,b)) (hb:(n+m)*bs≤140737488355328) (rX:n+m<2 ^ 63) :
 ∃ p' aV g' b' w',(Builtin.append_ ts ty #[.slice p n cap,.slice q m c]).run P w=.ok (.slice p' (n+m) aV) w'∧ek e es p' (n+m) aV (cells++new) g' b'∧Mem w0 w' X (QQ L j (g',b')):=by
 have kf:=ha.MF hm (Js hj)
 obtain ⟨b7,gy⟩:=Yi (w:=w) (cap:=cap) (c:=c) (ty:=ty) hT dU dQ oO hz hq bR kf ha.len hb rX
 have hlen:(cells++new).length=(n+m)*es:=by rw [Lc,ha.len,bR,Kh]
 have lq:∀ (L:Tf) (k:Nat) (q:Nat×ag),aR L k=some q→QQ L k q=L:=fun L=>by
  induction L with
  | nil=>intro k q h; simp [aR] at h
  | cons x r ih=>
   intro k q h
   cases k with
   | zero=>simp only [aR,Option.some.injEq] at h; subst h; rfl
   | succ k=>simp only [QQ]; rw [ih k q h]
 by_cases hle:n+m≤cap
 · have aN:=b7 hle
   rcases ha.cases' with ⟨h2,h3⟩ | ⟨l,o,rfl,rfl,vo,hl,oP⟩
   · have ar:m=0:=by omega
     subst h2 h3 ar
     have BK:new=[]:=Ll.1 (by rw [bR]; simp)
     have sB:cells=[]:=Ll.1 (by rw [ha.len]; simp)
     subst BK sB
     refine ⟨p,0,g,b,w,?_,⟨Tc,.inl ⟨rfl,rfl⟩⟩,by rw [lq L j _ hj]; exact hm⟩
     rw [aN]
     cases p <;> simp [storeCells]
   · have hg:=hm.get hj
     have hnm:n*es+new.length≤cap*es:=by rw [bR,← Kh]; exact Lr _ hle
     have cF:=run_storeCells_at P g (o+n*es) e new 0 ⟨l⟩ w hg (by simp only [Nat.add_zero,List.size_toArray]; omega) (by simpa using h1)
     simp only [Nat.add_zero] at cF
     have lu:(⟨g,o,none⟩:Addr).add (n*es)=⟨g,o+n*es,none⟩:=by
      unfold Addr.add; split
      · rename_i h0; rw [h0]; simp
      · simp
     refine ⟨some ⟨g,o,none⟩,cap,g,.row e (l.take (o+n*es)++new++l.drop (o+n*es+new.length)),_,by rw [aN]; simp only [lu,cF]; rfl,⟨hlen,.inr ⟨_,o,rfl,rfl,hle,?_,?_⟩⟩,?_⟩
     · simp only [Lc,Lg,Lm]
       omega
     · have bL:=ha.len
       rw [Lp,List.drop_append_of_le_length (by rw [Lg]; omega),List.drop_take,Kk,oP,← Lp,← hlen]
       exact Kj
     · have:=Qk (l':=l.take (o+n*es)++new++l.drop (o+n*es+new.length)) hm hj
       rw [gA L j g _ _ hj] at this
       exact this
 · have aX:cap<n+m:=by omega
   have aN:=gy aX
   refine ⟨_,_,w.heap.size,.row e (cells++new++(Builtin.zeroCells ⟨z⟩ (Qa w (n+m) cap e-(n+m))).toList),_,aN,⟨hlen,.inr ⟨_,0,rfl,rfl,VV _ _ _ _,?_,?_⟩⟩,?_⟩
   · have:(Builtin.zeroCells ⟨z⟩ (Qa w (n+m) cap e-(n+m))).toList.length=(Qa w (n+m) cap e-(n+m))*es:=by
      rw [← cV]; simp [Builtin.zeroCells]
     rw [Lc,hlen,this,← Kh,LV]
     refine Lr _ ?_
     have:=VV w (n+m) cap e
     omega
   · rw [← hlen,List.drop_zero]; exact Kj
   · exact ((hm.ext (Va w)).alloc (ag.row e (cells++new++(Builtin.zeroCells ⟨z⟩ (Qa w (n+m) cap e-(n+m))).toList))).lay j hj
section
variable {P:Program}{r:Option Nat}{k:Ks}{ops:Array Oper}{md:Md}{n:Nat}{D:List Deferred}{S:Tk}{w:World}{i:Nat}{t:Tr}
variable {ty:TypeId}{pos:String}{af:Array Edge}{g:Option (Nat×Bool)}{dst:Option Tmp}{d:Nat}{w0:World}{X:Bs}{L:Tf}
theorem zO{T e es bs:Nat}{s x:Operand}{ts:Array TypeId}{p q:Tg}{na cap m c gg:Nat}{b:ag}{cells new z:Ti}{T2:TypeId}{x2:TypeId×Nat×Nat}
 (ho:eL ops S i=some (⟨dst,.call ⟨.builtin .append,#[s,x],ts⟩,ty,pos,af,g⟩,d)) (hd:Nat.blt d n=true) (hs:ev S s=some (.slice p na cap)) (hx:ev S x=some (.slice q m c)) (dU:ts[0]?=some T) (dQ:ts[1]?=some T2)
 (hT:QH P T=some (e,es,bs)) (oO:QH P T2=some x2) (hz:iF P e=some z) (cV:z.length=es) (h1:new.all (·.oneCell')=true) (hq:Rd w q new) (bR:new.length=m*es) (ha:ek e es p na cap cells gg b)
 (hm:Mem w0 w X L) (j:Nat) (hj:aR L j=some (gg,b)) (hb:(na+m)*bs≤140737488355328) (rX:na+m<2 ^ 63)
 (h:∀ p' aV g' b' w',ek e es p' (na+m) aV (cells++new) g' b'→Mem w0 w' X (QQ L j (g',b'))→HR P r k ops none n D ((d,.slice p' (na+m) aV)::S) t w'):HR P r k ops none n D S (.act i t) w:=by
 obtain ⟨p',aV,g',b',w',aN,vE,vF⟩:=ha.append (c:=c) (ty:=ty) hT dU dQ oO hz cV h1 hq bR hm j hj hb rX
 refine Vv ho hd rfl (fun a hf=>?_) trivial (h p' aV g' b' w' vE vF)
 simp only [execOp,resolve,List.map_toArray,Ka,List.map_nil,hf.eval hs,hf.eval hx,Sem.run_bind,Sem.run_pure,Result.andThen_ok,invoke,builtin,aN]
end
theorem XQ{xs:Th}{n:Nat}(h:xs.length=n):(xs.flatMap Jk).length=n:=by rw [I5,h]
theorem zP(l:Ti):eP l 0 l.length=some l:=gp l []
theorem xU{xs:Th}{n:Nat}(h:xs.length=n):eP (xs.flatMap Jk) 0 n=some (xs.flatMap Jk):=by
 have:=zP (xs.flatMap Jk)
 rwa [I5,h] at this
theorem gL{l us:Ti}(h:us.length=l.length):aU l 0 us=us:=by
 rw [QT us l 0 Ta,List.take_zero,L4,LV,h,List.drop_length,Lq]
theorem tz{xs:Th}(h:xs.length=32):aU [.int .u8 0,.int .u8 0,.int .u8 0,.int .u8 0,.int .u8 0,.int .u8 0,.int .u8 0,.int .u8 0,.int .u8 0,.int .u8 0,.int .u8 0,.int .u8 0,.int .u8 0,.int .u8 0,.int .u8 0,.int .u8 0,.int .u8 0,.int .u8 0,.int .u8 0,.int .u8 0,.int .u8 0,.int .u8 0,.int .u8 0,.int .u8 0,.int .u8 0,.int .u8 0,.int .u8 0,.int .u8 0,.int .u8 0,.int .u8 0,.int .u8 0,.int .u8 0] 0 (xs.flatMap Jk)=xs.flatMap Jk:=gL (XQ h)
def GH(s:Pl.S8):List Value:=[.int .u32 (s.a.toNat:Int),.int .u32 (s.b.toNat:Int),.int .u32 (s.c.toNat:Int),.int .u32 (s.d.toNat:Int),.int .u32 (s.e.toNat:Int),.int .u32 (s.f.toNat:Int),.int .u32 (s.g.toNat:Int),.int .u32 (s.h.toNat:Int)]
def tA(s:Pl.S8)(rv:Value)(n:Int):List Value:=[.int .u32 (s.a.toNat:Int),.int .u32 (s.b.toNat:Int),.int .u32 (s.c.toNat:Int),.int .u32 (s.d.toNat:Int),.int .u32 (s.e.toNat:Int),.int .u32 (s.f.toNat:Int),.int .u32 (s.g.toNat:Int),.int .u32 (s.h.toNat:Int),rv,.int .i64 n]
def I6(ws:List UInt32)(rv:Value)(n:Int):List Value:=ws.flatMap Zn++[rv,.int .i64 n]
theorem zQ{l r:Ti}{o:Nat}{v:Value}(h:o<l.length):aU (l++r) o [v]=aU l o [v]++r:=by
 simp only [aU,Yg]
 exact List.set_append_left _ _ h
theorem GI{ws:List UInt32}{rv:Value}{n:Int}{i:Nat}{y:UInt32}(h:i<ws.length):aU (I6 ws rv n) (0+i*1) [.int .u32 (y.toNat:Int)]=I6 (ws.set i y) rv n:=by
 unfold I6
 rw [zQ (by rw [CB]; omega),setW]
theorem GJ{ws:List UInt32}{rv:Value}{n:Int}{i:Nat}{y:UInt32}(h:ws[i]?=some y):nth (I6 ws rv n) (0+i*1)=some (.int .u32 (y.toNat:Int)):=by
 have hl:=(Le.1 h).1
 have:=wy h
 rw [XN] at this ⊢
 unfold I6
 rw [L3 (by rw [CB]; omega),this]
def mG(s v:Pl.S8)(i:Nat):List UInt32:=(s.add v).l.take i++s.l.drop i
theorem pz(s v:Pl.S8){i:Nat}(h:i≤8):(mG s v i).length=8:=by
 simp only [mG,Lc,Lg,Lm,Pl.S8.l,Li,LA]
 omega
theorem zR(s v:Pl.S8){i:Nat}(h:i<8):(mG s v i)[i]?=some (s.l.getD i 0):=by
 match i,h with
 | 0,_ | 1,_ | 2,_ | 3,_ | 4,_ | 5,_ | 6,_ | 7,_=>rfl
theorem zS(s v:Pl.S8){i:Nat}(h:i<8):(mG s v i).set i (s.l.getD i 0+v.l.getD i 0)=mG s v (i+1):=by
 match i,h with
 | 0,_ | 1,_ | 2,_ | 3,_ | 4,_ | 5,_ | 6,_ | 7,_=>rfl
theorem Sy{v:Pl.S8}{i:Nat}(h:i<8):nth (GH v) (0+i*1)=some (.int .u32 ((v.l.getD i 0).toNat:Int)):=by
 match i,h with
 | 0,_ | 1,_ | 2,_ | 3,_ | 4,_ | 5,_ | 6,_ | 7,_=>rfl
def VN(TT U8:Nat)(msg:Th)(m:Nat)(Z:Tf):Prop:=
 ∃ p cap g b,Z=[(m,.row TT (tA (Pl.mE msg) (.slice p (Pl.Vr msg).length cap) (msg.length:Int))),(g,b)]∧ek U8 1 p (Pl.Vr msg).length cap ((Pl.Vr msg).flatMap Jk) g b
theorem GK{s:Pl.S8}{rv:Value}{n:Int}{i:Nat}(h:i<8):nth (tA s rv n) (0+i*1)=some (.int .u32 ((s.l.getD i 0).toNat:Int)):=by
 match i,h with
 | 0,_ | 1,_ | 2,_ | 3,_ | 4,_ | 5,_ | 6,_ | 7,_=>rfl
theorem ek.apart{w0 w:World}{X:Bs}{L:Tf}{e es n cap g m:Nat}{b c:ag}{p:Tg}{cells:Ti}(h:ek e es p n cap cells g b)(hm:Mem w0 w X L)(j k:Nat)(hj:aR L j=some (g,b))(hk:aR L k=some (m,c))(vm:Nat.beq j k=false)(hc:c.real=true)(hn:cells≠[]) :
 ∀ ad,p=some ad→¬ (ad.block=m):=fun ad e=>by
 rcases h.cases' with ⟨h1,_⟩ | ⟨l,o,rfl,rfl,_⟩
 · have:=h.len
   rw [h1,Nat.zero_mul] at this
   exact absurd (Ll.1 this) hn
 · cases e
   exact hm.ne j k hj hk vm rfl hc
theorem ek.MW{w0 w:World}{X:Bs}{L:Tf}{e n cap g m:Nat}{b c:ag}{p:Tg}{xs:Th}(h:ek e 1 p n cap (xs.flatMap Jk) g b)(hm:Mem w0 w X L)(j k:Nat)(hj:aR L j=some (g,b))(hk:aR L k=some (m,c))(vm:Nat.beq j k=false)(q:Nat)(hc:c.real=true) :
 (xs.take q).flatMap Jk≠[]→∀ ad,bP p cap 0 1=some ad→¬ (ad.block=m):=fun hn ad e=>by
 obtain ⟨a2,e2,e3⟩:=iN e
 rw [← e3]
 refine h.apart hm j k hj hk vm hc (fun e4=>hn ?_) a2 e2
 rw [vK e4]; simp
theorem u8N(n:Nat):IntKind.u8.wrap (n:Int)=((UInt8.ofNat n).toNat:Int):=by
 rw [I0,UInt8.toNat_ofNat']
theorem CC{v y:Nat}{j:Int}(hy:y<8)(hj:j=8*(7-(y:Int))):IntKind.u8.wrap ((v:Int).fdiv (2 ^ (min j.toNat IntKind.u64.bits)))=((UInt8.ofNat (v/256 ^ (8-1-y))).toNat:Int):=by
 rw [Sr (k:=8*(7-y)) Ta Ta,u8N,Nat.pow_mul]
theorem Ze{ps:List SB}{i:Nat}{s:SB}(h:ps[i]?=some s):(ps.take (i+1)).flatMap (·.bs)=(ps.take i).flatMap (·.bs)++s.bs:=by
 rw [Pl.QG h,Lh,List.flatMap_singleton]
theorem VN.row{TT U8 m:Nat}{msg:Th}{Z:Tf}{w:World}(h:VN TT U8 msg m Z)(hZ:Jr w Z):∃ rv,w.heap[m]?=some (ag.row TT (tA (Pl.mE msg) rv (msg.length:Int))).Jd:=by
 obtain ⟨p,cap,g,b,rfl,ha⟩:=h
 exact ⟨_,hZ.get (k:=0) rfl⟩
theorem Sz{j:Nat}(h1:1≤j)(h2:j<32):IntKind.u64.wrap (BitVec.ofInt IntKind.u64.bits (IntKind.u64.wrap (-(j:Int))) &&& BitVec.ofInt IntKind.u64.bits (31:Int)).toNat=((32-j:Nat):Int):=by
 have e1:IntKind.u64.wrap (-(j:Int))=((18446744073709551616-j:Nat):Int):=by
  simp only [IntKind.wrap,IntKind.signed,IntKind.bits,Bool.false_and,L0,if_false]
  omega
 have h:=Sq (k:=5) (n:=18446744073709551616-j) Ta 31 rfl Tb
 rw [e1]
 refine Eq.trans h ?_
 congr 1
 show (18446744073709551616-j)%32=_
 omega
theorem MX(x:UInt32){j:Nat}(h1:1≤j)(h2:j<32):(x <<< UInt32.ofNat (32-j)) ||| (x >>> UInt32.ofNat j)=Pl.iX x (UInt32.ofNat j):=by
 unfold Pl.iX
 rw [UInt32.or_comm]
 congr 2
 apply UInt32.toNat_inj.1
 rw [UInt32.toNat_sub_of_le _ _ (by rw [UInt32.le_iff_toNat_le,UInt32.toNat_ofNat']; show j%4294967296≤32; omega),UInt32.toNat_ofNat',UInt32.toNat_ofNat']
 show (32-j)%4294967296=32-j%4294967296
 omega
theorem oN{j:Nat}(h:j<32):(UInt32.ofNat j).toNat=j:=by rw [UInt32.toNat_ofNat']; exact Nat.mod_eq_of_lt Ta
end Go.Cx
namespace Go.Pl
def eF(D:Dv)(a b:Int):Bool:=valid a b&&decide (a+b≤((D.cnt*D.sz:Nat):Int))
def Q6(D:Dv)(a b:Int):Int:=if eF D a b=false then 2 else if 0<b∧D.dn=true then 18 else 0
def bw(D:Dv)(a b:Int):List UInt8:=if Q6 D a b=0 then ((contents D).drop a.toNat).take b.toNat else []
theorem JJ{D:Dv}{a b:Int}:eF D a b=true↔0≤a∧0≤b∧b≤4611686018427387903-a∧a+b≤((D.cnt*D.sz:Nat):Int):=by
 unfold eF
 simp only [LJ,LO,Xk]
 omega
def sF(sz a b:Nat):Nat:=if b=0 then 0 else a/sz
def sN(sz a b:Nat):Nat:=if b=0 then 0 else (a+b-1)/sz-a/sz+1
theorem tB{sz a b:Nat}(hs:1≤sz)(h:a+b≤4611686018427387903):lJ (sz:Int) (a:Int) (b:Int)=(((sF sz a b:Nat):Int),((sN sz a b:Nat):Int)):=by
 have hv:valid (a:Int) (b:Int)=true:=YB Ta
 unfold lJ sF sN
 by_cases hb:b=0
 · rw [LI (.inr (.inr Ta)),LI hb,LI hb]; rfl
 · rw [LH (by rw [hv]; simp; omega),LH hb,LH hb]
   have hle:a/sz≤(a+b-1)/sz:=Nat.div_le_div_right Ta
   have e1:(a:Int)/(sz:Int)=((a/sz:Nat):Int):=by norm_cast
   have e2:((a:Int)+(b:Int)-1)/(sz:Int)=(((a+b-1)/sz:Nat):Int):=by
    rw [show (a:Int)+(b:Int)-1=((a+b-1:Nat):Int) by omega]; norm_cast
   rw [e1,e2]
   generalize a/sz=x at hle ⊢
   generalize (a+b-1)/sz=y at hle ⊢
   simp only [Prod.mk.injEq,true_and]
   omega
theorem zT{sz a b i:Nat}(hs:1≤sz)(h1:sF sz a b≤i)(h2:i<sF sz a b+sN sz a b):0<b∧i*sz<a+b∧a<(i+1)*sz:=by
 unfold sF at h1 h2
 unfold sN at h2
 by_cases hb:b=0
 · simp only [LI hb] at h2; omega
 · simp only [LH hb] at h1 h2
   have hle:a/sz≤(a+b-1)/sz:=Nat.div_le_div_right Ta
   have hi:i≤(a+b-1)/sz:=by omega
   have h3:i*sz≤a+b-1:=Ki (Lr _ hi) (Nat.div_mul_le_self _ _)
   have h4:a<(i+1)*sz:=by
    have:=Nat.lt_div_mul_add (a:=a) (b:=sz) Ta
    have h5:(a/sz+1)*sz≤(i+1)*sz:=Lr _ Ta
    rw [Kh,Nat.one_mul] at h5
    omega
   omega
theorem qL{sz a b:Nat}(hs:1≤sz):sF sz a b*sz≤a:=by
 unfold sF
 split
 · omega
 · exact Nat.div_mul_le_self _ _
theorem wz{sz a b:Nat}(hs:1≤sz):a+b≤(sF sz a b+sN sz a b)*sz∨b=0:=by
 unfold sF sN
 by_cases hb:b=0
 · exact .inr hb
 · left
   rw [LH hb,LH hb]
   have hle:a/sz≤(a+b-1)/sz:=Nat.div_le_div_right Ta
   have:=Nat.lt_div_mul_add (a:=a+b-1) (b:=sz) Ta
   rw [show a/sz+((a+b-1)/sz-a/sz+1)=(a+b-1)/sz+1 by omega,Kh,Nat.one_mul]
   omega
theorem XZ{sz a b cnt:Nat}(hs:1≤sz)(h:a+b≤cnt*sz)(hc:1≤cnt):sF sz a b+sN sz a b≤cnt:=by
 rcases L7 cnt (sF sz a b+sN sz a b) with aX | iA
 · exfalso
   by_cases hb:b=0
   · unfold sF sN at aX; rw [LI hb,LI hb] at aX; omega
   · have hN:0<sN sz a b:=by unfold sN; rw [LH hb]; omega
     have h1:=(zT (a:=a) (b:=b) hs (i:=sF sz a b+sN sz a b-1) Ta Ta).2.1
     have h2:cnt*sz≤(sF sz a b+sN sz a b-1)*sz:=Lr _ Ta
     omega
 · exact iA
def pO(sz a i:Nat):Nat:=max a (i*sz)
def pL(sz a b i:Nat):Nat:=min (a+b) (i*sz+sz)-max a (i*sz)
theorem GL{sz a b i:Nat}(hs:1≤sz)(h1:sF sz a b≤i)(h2:i<sF sz a b+sN sz a b):aL (a:Int) (b:Int) ((i*sz:Nat):Int) (sz:Int)=some (((pO sz a i:Nat):Int),((pL sz a b i:Nat):Int)):=by
 obtain ⟨h3,h4,h5⟩:=zT hs h1 h2
 rw [Kh,Nat.one_mul] at h5
 unfold aL zn pO pL
 rw [LH Ta]
 simp only [Option.some.injEq,Prod.mk.injEq]
 omega
theorem gM{sz a b i:Nat}(hs:1≤sz)(h1:sF sz a b≤i)(h2:i<sF sz a b+sN sz a b):a≤pO sz a i∧i*sz≤pO sz a i∧1≤pL sz a b i∧pO sz a i+pL sz a b i≤a+b∧pO sz a i+pL sz a b i≤i*sz+sz:=by
 obtain ⟨h3,h4,h5⟩:=zT hs h1 h2
 rw [Kh,Nat.one_mul] at h5
 unfold pO pL
 omega
def rL(sz a b i:Nat):Nat:=min b (i*sz-a)
theorem xV{sz a b i:Nat}(hs:1≤sz)(h1:sF sz a b≤i)(h2:i<sF sz a b+sN sz a b):rL sz a b i=pO sz a i-a∧rL sz a b (i+1)=rL sz a b i+pL sz a b i:=by
 obtain ⟨h3,h4,h5⟩:=zT hs h1 h2
 unfold rL pO pL
 rw [Kh,Nat.one_mul] at *
 omega
theorem CD{sz a b:Nat}(hs:1≤sz):rL sz a b (sF sz a b)=0:=by
 have:=qL (b:=b) hs (a:=a)
 unfold rL; omega
theorem GM{sz a b:Nat}(hs:1≤sz):rL sz a b (sF sz a b+sN sz a b)=b:=by
 have:=wz (a:=a) (b:=b) hs
 unfold rL; omega
theorem xW{f:Th}{a b o n:Nat}(ho:a≤o)(h:o+n≤a+b):((((f.drop a).take b).drop (o-a)).take n)=(f.drop o).take n:=by
 apply Kb
 intro j
 rw [LF,LF]
 split
 · rw [Kc,Kc,LF,LI Ta,Kc]
   congr 1; omega
 · rfl
def half(X:Th)(b L:Nat):List UInt8:=X.take L++List.replicate (b-L) 0
theorem CF{X:Th}{b L:Nat}(h:X.length=b)(hL:L≤b):(half X b L).length=b:=by
 unfold half; rw [Lc,Lg,List.length_replicate]; omega
theorem CG{X:Th}{b L n:Nat}(h:X.length=b)(hL:L+n≤b):put (half X b L) L ((X.drop L).take n)=half X b (L+n):=by
 unfold put half
 have h1:(X.take L).length=L:=by rw [Lg]; omega
 have h2:((X.drop L).take n).length=n:=by rw [Lg,Lm]; omega
 have e1:(X.take L++List.replicate (b-L) (0:UInt8)).take L=X.take L:=List.take_left' h1
 have e2:(X.take L++List.replicate (b-L) (0:UInt8)).drop (L+n)=List.replicate (b-(L+n)) 0:=by
  rw [List.drop_append,h1,List.drop_of_length_le (by rw [h1]; omega),L4,List.drop_replicate,show b-L-(L+n-L)=b-(L+n) by omega]
 rw [e1,h2,e2,List.take_add]
theorem zU{f:Th}{sz a b i:Nat}(hs:1≤sz)(hf:a+b≤f.length)(h1:sF sz a b≤i)(h2:i<sF sz a b+sN sz a b) :
 put (half ((f.drop a).take b) b (rL sz a b i)) (pO sz a i-a) ((((f.drop (i*sz)).take sz).drop (pO sz a i-i*sz)).take (pL sz a b i))=half ((f.drop a).take b) b (rL sz a b (i+1)):=by
 obtain ⟨b1,b2,b3,b4,b5⟩:=gM (b:=b) hs h1 h2
 obtain ⟨n1,n2⟩:=xV hs h1 h2
 rw [xW b2 b5,← xW b1 b4,← n1,n2]
 exact CG (by rw [Lg,Lm]; omega) (by unfold rL at *; omega)
theorem I7{x:Int}(h1:-9223372036854775808≤x)(h2:x≤9223372036854775807):IntKind.i64.wrap x=x:=Cx.Ql h1 h2
def VK(sz:Nat)(cS:Th)(a:Nat)(bs:Th)(i:Nat):List UInt8:=(List.range sz).map fun k=>if a≤i*sz+k∧i*sz+k<a+bs.length then bs.getD (i*sz+k-a) 0 else cS.getD k 0
theorem Xp(sz:Nat)(cS:Th)(a:Nat)(bs:Th)(i:Nat):(VK sz cS a bs i).length=sz:=by simp [VK]
theorem tC{sz:Nat}{cS:Th}{a:Nat}{bs:Th}{i k:Nat}(hk:k<sz)(ho:cS.length=sz):(VK sz cS a bs i)[k]?=if a≤i*sz+k∧i*sz+k<a+bs.length then bs[i*sz+k-a]? else cS[k]?:=by
 unfold VK
 rw [Lt,List.getElem?_range hk]
 simp only [Option.map_some]
 split
 · rename_i h
   rw [List.getD_eq_getElem?_getD,La Ta]; rfl
 · rw [List.getD_eq_getElem?_getD,La Ta]; rfl
theorem CH{sz a i:Nat}{cS bs:Th}(hs:1≤sz)(ho:cS.length=sz)(h1:sF sz a bs.length≤i)(h2:i<sF sz a bs.length+sN sz a bs.length) :
 put cS (pO sz a i-i*sz) ((bs.drop (pO sz a i-a)).take (pL sz a bs.length i))=VK sz cS a bs i:=by
 obtain ⟨b1,b2,b3,b4,b5⟩:=gM hs h1 h2
 have hl:((bs.drop (pO sz a i-a)).take (pL sz a bs.length i)).length=pL sz a bs.length i:=by rw [Lg,Lm]; omega
 have b7:pO sz a i-i*sz+((bs.drop (pO sz a i-a)).take (pL sz a bs.length i)).length≤cS.length:=by rw [hl,ho]; omega
 apply Kb
 intro k
 by_cases hk:k<sz
 · rw [XI b7,tC hk ho,hl]
   have hc:(pO sz a i-i*sz≤k∧k<pO sz a i-i*sz+pL sz a bs.length i)↔(a≤i*sz+k∧i*sz+k<a+bs.length):=by
    unfold pO pL at *; omega
   by_cases h:a≤i*sz+k∧i*sz+k<a+bs.length
   · rw [LI (hc.2 h),LI h,LF,LI (by have:=hc.2 h; omega),Kc]
     congr 1
     have:=hc.2 h
     omega
   · rw [LH (fun e=>h (hc.1 e)),LH h]
 · rw [L8 (by rw [Xq b7,ho]; omega),L8 (by rw [Xp]; omega)]
def cg(a:Nat)(bs:Th):Nat→Nat→Dv→Int×Dv
 | 0,_,D=>(0,D)
 | n+1,i,D=>if JI D (i:Int)≠0 then (JI D (i:Int),D) else
  if Yt D (i:Int) (VK D.sz (ej D (i:Int)) a bs i)≠0 then (Yt D (i:Int) (VK D.sz (ej D (i:Int)) a bs i),lY D (i:Int) (VK D.sz (ej D (i:Int)) a bs i)) else
  cg a bs n (i+1) (lY D (i:Int) (VK D.sz (ej D (i:Int)) a bs i))
def Ys(D:Dv)(a:Int)(bs:Th):Int×Dv:=
 if eF D a (bs.length:Int)=false then (2,D) else cg a.toNat bs (sN D.sz a.toNat bs.length) (sF D.sz a.toNat bs.length) D
theorem mH(D:Dv)(i:Int)(b:Th):(lY D i b).sz=D.sz∧(lY D i b).cnt=D.cnt∧(lY D i b).ca.length≤D.ca.length+1:=by
 unfold lY
 split
 · exact ⟨rfl,rfl,Ta⟩
 · split
   · exact ⟨rfl,rfl,by simp [VB]⟩
   · split
     · exact ⟨rfl,rfl,by simp [VB]⟩
     · exact ⟨rfl,rfl,by simp [bm]⟩
theorem Zu(a:Nat)(bs:Th):∀ (n i:Nat) (D:Dv),okDv D→D.ca.length+n≤1000000000→okDv (cg a bs n i D).2∧(cg a bs n i D).2.sz=D.sz∧(cg a bs n i D).2.cnt=D.cnt∧(cg a bs n i D).2.ca.length≤D.ca.length+n
 | 0,i,D,h,_=>⟨h,rfl,rfl,by simp [cg]⟩
 | n+1,i,D,h,hl=>by
  have h1:=s7 (i:=(i:Int)) (b:=VK D.sz (ej D (i:Int)) a bs i) h Ta
  have h2:=mH D (i:Int) (VK D.sz (ej D (i:Int)) a bs i)
  simp only [cg]
  split
  · exact ⟨h,rfl,rfl,Td⟩
  · split
    · exact ⟨h1,h2.1,h2.2.1,Td⟩
    · have ih:=Zu a bs n (i+1) _ h1 Ta
      rw [h2.1,h2.2.1] at ih
      exact ⟨ih.1,ih.2.1,ih.2.2.1,Ta⟩
theorem qM{D:Dv}(h:okDv D){i:Nat}(hi:i<D.cnt):(ej D (i:Int)).length=D.sz:=by
 have hc:(contents D).length=D.dk.length:=YQ h.len h.ca
 have:=V9 (sz:=D.sz) hi
 have hl:=h.len
 unfold ej
 rw [Lg,Lm,LD]
 omega
theorem wA(a:Nat)(bs:Th):∀ (n i:Nat) (D:Dv),okDv D→D.dn=false→D.wr<0→i+n≤D.cnt→D.ca.length+n≤1000000000→0≤D.sW→D.sW+n≤4611686018427387903 →
 (cg a bs n i D).1=0∧(cg a bs n i D).2.dn=false∧(cg a bs n i D).2.wr<0∧(cg a bs n i D).2.dk=D.dk∧(cg a bs n i D).2.sW=D.sW+n ∧
 ∀ j,(contents (cg a bs n i D).2)[j]?=if (i*D.sz≤j∧j<(i+n)*D.sz)∧(a≤j∧j<a+bs.length) then bs[j-a]? else (contents D)[j]?
 | 0,i,D,h,hd,hw,hi,hl,_,_=>⟨rfl,hd,hw,rfl,by simp [cg],fun j=>by simp only [cg,Nat.add_zero]; rw [LH Ta]⟩
 | n+1,i,D,h,hd,hw,hi,hl,h0,hs=>by
  obtain ⟨x,hx⟩:∃ x,VK D.sz (ej D (i:Int)) a bs i=x:=⟨_,rfl⟩
  have hc:JI D (i:Int)=0:=by unfold JI; rw [LH (by simp [hd]),LH Ta]
  have rZ:x.length=D.sz:=by rw [← hx,Xp]
  have RR:Yt D (i:Int) x=0:=by rw [Xn hc rZ,LH Ta]
  have hwd:lY D (i:Int) x=VB D (i:Int) x:=qE hc rZ hw
  have aq:=vZ h hc rZ Ta
  have hinc:inc D.sW=D.sW+1:=by unfold inc; exact I7 Ta Ta
  have bL:(contents D).length=D.cnt*D.sz:=by rw [show (contents D).length=D.dk.length from YQ h.len h.ca,h.len]
  have I8:=V9 (sz:=D.sz) (show i<D.cnt by omega)
  have PI:contents (VB D (i:Int) x)=put (contents D) (i*D.sz) x:=by
   show (D.ca++[((i:Int).toNat,x)]).foldl (jP D.sz) D.dk=_
   rw [List.foldl_append]; rfl
  have ih:=wA a bs n (i+1) (VB D (i:Int) x) aq hd hw (by show i+1+n≤D.cnt; omega) (by show (D.ca++[((i:Int).toNat,x)]).length+n≤_; rw [Lc,LG]; omega) (by show 0≤inc D.sW; omega) (by show inc D.sW+n≤_; omega)
  have e:cg a bs (n+1) i D=cg a bs n (i+1) (VB D (i:Int) x):=by
   simp only [cg]
   rw [LH Ta,hx,LH Ta,hwd]
  rw [e]
  refine ⟨ih.1,ih.2.1,ih.2.2.1,ih.2.2.2.1,by rw [ih.2.2.2.2.1]; show inc D.sW+_=_; omega,fun j=>?_⟩
  rw [ih.2.2.2.2.2 j,PI,show (VB D (i:Int) x).sz=D.sz from rfl,XI (by rw [rZ,bL]; exact I8),rZ]
  have e1:(i+1)*D.sz=i*D.sz+D.sz:=by rw [Kh,Nat.one_mul]
  have e2:(i+(n+1))*D.sz=(i+1+n)*D.sz:=by rw [show i+(n+1)=i+1+n by omega]
  have e3:i*D.sz+D.sz≤(i+1+n)*D.sz:=by rw [← e1]; exact Lr _ Ta
  rw [e2]
  by_cases c1:(i+1)*D.sz≤j∧j<(i+1+n)*D.sz
  · by_cases c2:a≤j∧j<a+bs.length
    · rw [LI ⟨c1,c2⟩,LI ⟨Ta,c2⟩]
    · rw [LH (fun e=>c2 e.2),LH Ta,LH (fun e=>c2 e.2)]
  · rw [LH (fun e=>c1 e.1)]
    by_cases c3:i*D.sz≤j∧j<i*D.sz+D.sz
    · rw [LI c3,← hx,tC Ta (qM h Ta),show i*D.sz+(j-i*D.sz)=j by omega]
      by_cases c2:a≤j∧j<a+bs.length
      · rw [LI c2,LI ⟨Ta,c2⟩]
      · rw [LH c2,LH (fun e=>c2 e.2)]
        unfold ej
        rw [LF,LI Ta,Kc,LD]
        congr 1; omega
    · rw [LH c3,LH (fun e=>by omega)]
theorem Xh{D:Dv}(h:okDv D):(contents D).length=D.cnt*D.sz:=by rw [show (contents D).length=D.dk.length from YQ h.len h.ca,h.len]
theorem CI{D:Dv}{a:Nat}{bs:Th}(h:okDv D)(hd:D.dn=false)(hw:D.wr<0)(bM:eF D (a:Int) (bs.length:Int)=true)(hl:D.ca.length+D.cnt≤1000000000)(h0:0≤D.sW)(hs:D.sW+D.cnt≤4611686018427387903) :
 (Ys D (a:Int) bs).1=0∧(Ys D (a:Int) bs).2.dn=false∧(Ys D (a:Int) bs).2.dk=D.dk∧(Ys D (a:Int) bs).2.sW=D.sW+(sN D.sz a bs.length:Nat)∧(Ys D (a:Int) bs).2.sz=D.sz∧(Ys D (a:Int) bs).2.cnt=D.cnt∧okDv (Ys D (a:Int) bs).2∧(Ys D (a:Int) bs).2.ca.length≤D.ca.length+D.cnt ∧
 ∀ j,(contents (Ys D (a:Int) bs).2)[j]?=if a≤j∧j<a+bs.length then bs[j-a]? else (contents D)[j]?:=by
 have ho:=JJ.1 bM
 have xX:=XZ (sz:=D.sz) (a:=a) (b:=bs.length) (cnt:=D.cnt) h.sz Ta h.cnt
 have hN:sN D.sz a bs.length≤D.cnt:=by omega
 have u:=wA a bs (sN D.sz a bs.length) (sF D.sz a bs.length) D h hd hw xX Ta h0 Ta
 have k:=Zu a bs (sN D.sz a bs.length) (sF D.sz a bs.length) D h Ta
 unfold Ys
 rw [LH (by simp [bM]),LD]
 refine ⟨u.1,u.2.1,u.2.2.2.1,u.2.2.2.2.1,k.2.1,k.2.2.1,k.1,Ta,fun j=>?_⟩
 rw [u.2.2.2.2.2 j]
 by_cases c:a≤j∧j<a+bs.length
 · have h1:=qL (sz:=D.sz) (a:=a) (b:=bs.length) h.sz
   have h2:=wz (sz:=D.sz) (a:=a) (b:=bs.length) h.sz
   rw [LI ⟨Ta,c⟩,LI c]
 · rw [LH (fun e=>c e.2),LH c]
end Go.Pl
namespace Go.Pl
def CJ(D:Dv)(a b c:Int)(k:Nat):List UInt8:=((contents D).drop a.toNat).take ((rest a b c k).1-a).toNat
theorem XB{D:Dv}{a b:Int}(hd:D.dn=false)(bM:eF D a b=true):Q6 D a b=0:=by
 unfold Q6
 rw [bM,LH Tb,LH (by rw [hd]; rintro ⟨_,h⟩; cases h)]
theorem CK{D:Dv}(h:okDv D)(hd:D.dn=false){a b c:Int}(bM:eF D a b=true){n k:Nat}(hn:(n:Int)=pieces b c)(hk:k<n) :
 aA (piece a b c k).1∧aA (piece a b c k).2∧Q6 D (piece a b c k).1 (piece a b c k).2=0∧CJ D a b c (k+1)=CJ D a b c k++bw D (piece a b c k).1 (piece a b c k).2:=by
 have hv:=JJ.1 bM
 have fy:=h.max
 obtain ⟨hc,h0,h1,h2⟩:=lH hv.2.1 (show (k:Int)<pieces b c by omega)
 have h5:=(Y5 (o:=a)).2 h1
 have h8:=lG a b c k
 have h9:=qu (o:=a) (i:=k) hc hv.2.1
 have hs:=iP (o:=a) hc h5
 rw [Zz h5]
 unfold CJ
 rw [hs]
 generalize rest a b c k=R at h5 h8 h9 ⊢
 obtain ⟨x,y⟩:=R
 simp only at h5 h8 h9 ⊢
 have MY:eF D x (min c y)=true:=JJ.2 ⟨Ta,Ta,Ta,Ta⟩
 have ai:=XB hd MY
 refine ⟨by unfold aA; omega,by unfold aA; omega,ai,?_⟩
 unfold bw
 rw [LI ai,show (x+min c y-a).toNat=(x-a).toNat+(min c y).toNat by omega,List.take_add,List.drop_drop,show a.toNat+(x-a).toNat=x.toNat by omega]
theorem zV{D:Dv}{a b c:Int}(hb:0≤b):CJ D a b c 0=[]:=by
 unfold CJ
 rw [Y4 hb]
 simp
theorem CL{D:Dv}(h:okDv D)(hd:D.dn=false){a b c:Int}(bM:eF D a b=true)(hc:1≤c){n:Nat}(hn:(n:Int)=pieces b c):CJ D a b c n=bw D a b:=by
 have hv:=JJ.1 bM
 have fy:=h.max
 have he:=B5 (a:=a) hv.2.1 hn
 have ai:=XB hd bM
 unfold CJ bw
 rw [LI ai,he]
 split
 · rename_i h0
   subst h0
   have Mm:b=0:=by
    by_cases zW:b=0
    · exact zW
    exfalso
    have h3:=Xg (x:=b-1) (s:=c) Ta hc
    have h4:((0:Nat):Int)=if c<1∨b=0∨1048576≤(b-1)/c then 0 else (b-1)/c+1:=hn
    rw [LH Ta] at h4
    omega
   rw [Mm]
 · rfl
theorem GO{D:Dv}(h:okDv D)(a b c:Int)(k:Nat):(CJ D a b c k).length≤1048576:=by
 have h1:=Xh h
 have h2:=h.max
 unfold CJ
 rw [Lg,Lm]
 omega
end Go.Pl
namespace Go.Cx
open Go
theorem Mem.Zp{w0 w:World}{A Z:Tf}(h:Mem w0 w No A)(hZ:Jr w0 Z):Mem w0 w (Mn (ak Z)) (A++Z):=by
 have aX:∀ p,p∈Z→p.2.real=true→p.1<w0.heap.size:=fun p hp hr=>(Lb.1 (hZ.1 p hp hr)).1
 refine ⟨h.os,h.tape,h.output,h.size,fun k hk _=>h.same k hk id,fun p hp hr=>?_,fun p hp hr=>?_,?_⟩
 · rcases Ls.1 hp with hp | hp
   · exact h.own p hp hr
   · exact (h.same _ (aX p hp hr) id).trans (hZ.1 p hp hr)
 · rcases Ls.1 hp with hp | hp
   · exact .inr ((h.fresh p hp hr).resolve_left id)
   · exact .inl (JD.2 ⟨p.2,hp,hr⟩)
 · rw [Qi,Kg]
   refine ⟨h.nodup,hZ.2,fun k hk j hj e=>?_⟩
   subst e
   obtain ⟨b,hp,hr⟩:=JD.1 hk
   obtain ⟨c,hq,hs⟩:=JD.1 hj
   have h1:=(h.fresh _ hp hr).resolve_left id
   have h2:=aX _ hq hs
   simp only at h1 h2
   omega
theorem CM{p:Tg}{cap c es:Nat}(h:cap≠0→∀ ad,p=some ad→ad.spot=none):bP (bP p cap c es) (cap-c) 0 es=bP p cap c es:=by
 refine VR (fun hc ad e=>XX (fun _=>h Ta) Ta e)
end Go.Cx
namespace Go.Pl
structure Jn where
 nx:Int
 has:Bool
 la:Rc
def aY(D:Dv)(f N i:Nat):Nat:=(f+i*N)*D.sz
def gN(D:Dv)(f N i:Nat):Option Rc:=eE (bw D ((aY D f N i:Nat):Int) ((N*D.sz:Nat):Int))
def eO(D:Dv)(f N:Nat):List Rc:=(gN D f N 0).toList++(gN D f N 1).toList
def zX(D:Dv)(f N:Nat)(i:Nat):List Rc:=(List.range i).flatMap fun j=>(gN D f N j).toList
def mI:List Rc→Rc
 | []=>Fz
 | x::r=>r.foldl (fun b y=>if b.sq<y.sq then y else b) x
def CN:List Rc→Int
 | []=>1
 | [x]=>IntKind.u64.wrap (x.sq+1)
 | x::y::_=>IntKind.u64.wrap (max x.sq y.sq+1)
def jof(k:Int)(l:List Rc):Jn:=⟨CN l,decide (0<(l.filter fun r=>decide (r.id=k)).length),mI (l.filter fun r=>decide (r.id=k))⟩
def bG(D:Dv)(f N:Nat)(k:Int):Jn:=jof k (eO D f N)
def qN(D:Dv)(f b:Int):Int:=if slot (D.sz:Int) b=0 then 20 else if f<0∨(D.cnt:Int)<f∨(D.cnt:Int)-f<2*slot (D.sz:Int) b then 17 else 0
def aW(S:Jn)(k cu of:Int)(bs:Th):Rc:=⟨S.nx,k,cu,of,bs⟩
def Jo(S:Jn):Nat:=(S.nx%2).toNat
def nN(D:Dv)(f N:Nat)(S:Jn)(r:Rc):Int×Dv:=cg (aY D f N (Jo S)) (aC r) (sN D.sz (aY D f N (Jo S)) (aC r).length) (sF D.sz (aY D f N (Jo S)) (aC r).length) D
def qO(D:Dv)(f N:Nat)(S:Jn)(r:Rc):Int×Dv×Jn:=
 if (nN D f N S r).1≠0 then ((nN D f N S r).1,(nN D f N S r).2,S)
 else if QS (nN D f N S r).2≠0 then (QS (nN D f N S r).2,fe (nN D f N S r).2,S)
 else (0,fe (nN D f N S r).2,⟨IntKind.u64.wrap (S.nx+1),true,r⟩)
def aP(D:Dv)(f N:Nat)(b:Int)(S:Jn)(r:Rc):Int×Dv×Jn:=
 if bt r=true∧(r.bs.length:Int)≤b then qO D f N S r else (2,D,S)
theorem Zb(D:Dv)(f N i:Nat):zX D f N (i+1)=zX D f N i++(gN D f N i).toList:=by
 unfold zX
 rw [List.range_succ,Lh,List.flatMap_singleton]
theorem tD(D:Dv)(f N:Nat):zX D f N 2=eO D f N:=by
 rw [Zb,Zb]; rfl
theorem GP{α:Type}(o:Option α):o.toList.length≤1:=by cases o <;> simp
theorem mJ(D:Dv)(f N:Nat):∀ i,(zX D f N i).length≤i
 | 0=>LP _
 | i+1=>by
  have:=mJ D f N i
  have:=GP (gN D f N i)
  rw [Zb,Lc]; omega
theorem tE{s b:Int}{N:Nat}(h:slot s b=(N:Int))(h0:N≠0):1≤s∧1≤b∧b≤65536∧b+44≤(N:Int)*s∧((N:Int)-1)*s<b+44:=by
 unfold slot at h
 split at h
 · omega
 · rename_i hc
   have h1:1≤s∧1≤b∧b≤65536:=by omega
   have h2:(N:Int)=(b+43)/s+1:=by
    have:ba b=b+44:=by unfold ba; rw [LH Ta]; omega
    first | (rw [← h,this]; congr 2; omega) | (rw [← h]; congr 2; omega) | omega
   have h3:=Int.emod_add_mul_ediv (b+43) s
   have h4:=Int.emod_nonneg (b+43) (show s≠0 by omega)
   have h5:=Int.emod_lt_of_pos (b+43) (show 0<s by omega)
   rw [h2]
   generalize (b+43)/s=q at h3 ⊢
   have e1:(q+1)*s=s*q+s:=by rw [Int.add_mul,Int.mul_comm q s,Int.one_mul]
   have e2:(q+1-1)*s=s*q:=by rw [Int.add_sub_cancel,Int.mul_comm]
   rw [e1,e2]
   omega
theorem mK{D:Dv}{f N i:Nat}(h2:f+2*N≤D.cnt)(hi:i<2):aY D f N i+N*D.sz≤D.cnt*D.sz:=by
 have e:f+i*N+N≤D.cnt:=by rcases (show i=0∨i=1 by omega) with h | h <;> rw [h] <;> omega
 have:=Lr D.sz e
 unfold aY
 rwa [Kh _ N] at this
theorem SA{D:Dv}(hk:okDv D){f N i n:Nat}(h2:f+2*N≤D.cnt)(hi:i<2)(hn:n≤N*D.sz):eF D ((aY D f N i:Nat):Int) (n:Int)=true:=by
 have h1:=mK h2 hi
 have h3:=hk.max
 exact JJ.2 ⟨Ta,Ta,Ta,Ta⟩
theorem CO{D:Dv}(hk:okDv D)(hd:D.dn=false){f N i:Nat}(h2:f+2*N≤D.cnt)(hi:i<2):Q6 D ((aY D f N i:Nat):Int) ((N*D.sz:Nat):Int)=0:=by
 unfold Q6
 rw [SA hk h2 hi (LP _),LH Tb,LH (by rw [hd]; rintro ⟨_,h⟩; cases h)]
theorem Xv(S:Jn):Jo S<2:=by
 unfold Jo
 have:=Int.emod_lt_of_pos S.nx (show (0:Int)<2 by decide)
 omega
end Go.Pl
namespace Go.Pl
def dj(a b:Cm):Prop:=a.to+aw a≤b.to∨b.to+aw b≤a.to
def hasB(c:Cm)(x:Int):Bool:=decide (c.to≤x)&&decide (x<c.to+aw c)
theorem Qm{c:Cm}{x:Int}:hasB c x=true↔c.to≤x∧x<c.to+aw c:=by simp [hasB]
def single(o n:Int)(c:Cm):Int:=if av c≠0 then av c else if c.k=1∧o<c.fr+c.ln then 5 else if n<c.to+aw c then 6 else 0
theorem Jw{o n:Int}{c:Cm}(h:single o n c=0):av c=0∧(c.k=1→c.fr+c.ln≤o)∧c.to+aw c≤n:=by
 unfold single at h
 split at h
 · exact absurd h (by assumption)
 · rename_i h1
   split at h
   · cases h
   · rename_i h2
     split at h
     · cases h
     · refine ⟨Ta,fun hk=>?_,Ta⟩
       have:¬ o<c.fr+c.ln:=fun h=>h2 ⟨hk,h⟩
       omega
structure VD(o n:Int)(cs:List Cm):Prop where
 lens:0≤o∧0≤n∧o≤4611686018427387903∧n≤4611686018427387903
 one:∀ c∈cs,single o n c=0
 dis:∀ (i j:Nat) ci cj,j<i→cs[i]?=some ci→cs[j]?=some cj→dj ci cj
 cov:∀ x:Int,0≤x→x<n→∃ c∈cs,hasB c x=true
noncomputable def mL(o n:Int)(cs:List Cm):Bool:=@decide (VD o n cs) (Classical.propDecidable _)
theorem qP{o n:Int}{cs:List Cm}:mL o n cs=true↔VD o n cs:=by
 unfold mL
 exact @decide_eq_true_iff _ (Classical.propDecidable _)
theorem SD{o n:Int}{cs:List Cm}(h:¬ VD o n cs):mL o n cs=false:=by
 cases hb:mL o n cs with
 | false=>rfl
 | true=>exact absurd (qP.1 hb) h
def gO(cs:List Cm)(j:Nat):Int:=match j with
 | 0=>0
 | j+1=>match cs[j]? with | some c=>c.to+aw c | none=>0
theorem pA{cs:List Cm}{j:Nat}{c:Cm}(h:cs[j]?=some c):gO cs (j+1)=c.to+aw c:=by simp only [gO,h]
def tF(cs:List Cm)(x:Int):Int:=idx (fun c=>hasB c x) cs
theorem qQ{cs:List Cm}{x:Int}:0≤tF cs x↔∃ c∈cs,hasB c x=true:=by
 have h:=lF (fun c=>hasB c x) cs
 unfold tF
 constructor
 · intro h0
   rw [LQ h0] at h
   obtain ⟨c,hc,hb⟩:=List.any_eq_true.1 h.symm
   exact ⟨c,hc,hb⟩
 · rintro ⟨c,hc,hb⟩
   have h1:cs.any (fun c=>hasB c x)=true:=List.any_eq_true.2 ⟨c,hc,hb⟩
   rw [h1] at h
   exact of_decide_eq_true h
theorem gP{cs:List Cm}{x:Int}(h:∃ c∈cs,hasB c x=true):∃ (j:Nat) (c:Cm),tF cs x=j∧cs[j]?=some c∧hasB c x=true:=by
 unfold tF idx
 cases hf:cs.findIdx? (fun c=>hasB c x) with
 | none=>
  rw [List.findIdx?_eq_none_iff] at hf
  obtain ⟨c,hc,hb⟩:=h
  have:=hf c hc
  rw [hb] at this
  cases this
 | some j=>
  rw [List.findIdx?_eq_some_iff_getElem] at hf
  obtain ⟨h1,h2,_⟩:=hf
  exact ⟨j,cs[j],rfl,La h1,h2⟩
theorem CP{n:Int}{cs:List Cm}(h:∀ j,j≤cs.length→gO cs j<n→0≤tF cs (gO cs j)):∀ k:Nat,(k:Int)<n→∃ c∈cs,hasB c k=true
 | 0,hk=>qQ.1 (h 0 (LL _) hk)
 | k+1,hk=>by
  obtain ⟨c,hc,hb⟩:=CP h k Ta
  have h1:=Qm.1 hb
  by_cases h2:((k+1:Nat):Int)<c.to+aw c
  · exact ⟨c,hc,Qm.2 Ta⟩
  · obtain ⟨j,hj,e⟩:=LU hc
    have h3:cs[j]?=some c:=by rw [← e]; exact La hj
    have h4:=pA h3
    have h5:gO cs (j+1)=((k+1:Nat):Int):=by omega
    have h6:=h (j+1) Ta Ta
    rw [h5] at h6
    exact qQ.1 h6
def SE(a b:Cm):Int:=if a.k≠1 then 0 else ((aL a.fr a.ln b.to (aw b)).getD (0,0)).2
theorem gQ{a b c e:Int}:(0<((aL a b c e).getD (0,0)).2)↔max a c<min (a+b) (c+e):=by
 unfold aL zn
 split
 · simp only [Option.getD_none]; omega
 · simp only [Option.getD_some]; omega
theorem MZ{a b c e:Int}(h:¬ 0<((aL a b c e).getD (0,0)).2)(h1:0<b)(h2:0<e):a+b≤c∨c+e≤a:=by
 rw [gQ] at h
 omega
theorem GQ{a b c e:Int}(h:0<((aL a b c e).getD (0,0)).2):¬ (a+b≤c∨c+e≤a):=by
 rw [gQ] at h
 omega
def Safe(cs:List Cm):Prop:=∀ (i j:Nat) ci cj,j<i→cs[i]?=some ci→cs[j]?=some cj→¬ 0<SE ci cj
def de(f:Th)(c:Cm)(i:Nat):Option UInt8:=if c.k=1 then f[(c.fr+i-c.to).toNat]? else c.bs[((i:Int)-c.to).toNat]?
def SF(f:Th)(cs:List Cm)(i:Nat):UInt8:=((cs[(tF cs i).toNat]?).bind fun c=>de f c i).getD 0
def bQ(f:Th)(cs:List Cm)(n:Nat):List UInt8:=(List.range n).map (SF f cs)
theorem gR(f:Th)(cs:List Cm)(n:Nat):bQ f cs (n+1)=bQ f cs n++[SF f cs n]:=by
 unfold bQ
 rw [List.range_succ,Lx]; rfl
def eS(f:Th)(n:Int):List UInt8:=f++List.replicate (n-f.length).toNat 0
theorem YU(f:Th)(n:Int):((eS f n).length:Int)=max (f.length:Int) n:=by
 unfold eS
 rw [Lc,List.length_replicate]; omega
theorem CQ{f:Th}{n:Int}{i:Nat}(h:i<f.length):(eS f n)[i]?=f[i]?:=by
 unfold eS
 rw [L3 h]
theorem mM{o n:Int}{f:Th}{c:Cm}{i:Nat}(ho:o=f.length)(h:single o n c=0)(hb:hasB c i=true):∃ b,de f c i=some b:=by
 obtain ⟨h1,h2,h3⟩:=Jw h
 have hk:=Jl h1
 have h4:=Qm.1 hb
 unfold de
 split
 · rename_i h5
   have:=h2 h5
   exact ⟨_,La Ta⟩
 · exact ⟨_,La Ta⟩
theorem qR{f:Th}{cs:List Cm}{i j:Nat}{c:Cm}{b:UInt8}(h1:tF cs i=j)(h2:cs[j]?=some c)(h3:de f c i=some b):SF f cs i=b:=by
 unfold SF
 rw [h1,LD,h2]
 simp [h3]
def Inv(f g0:Th)(cs:List Cm)(k:Nat)(G:Th):Prop:=G.length=g0.length∧∀ i:Nat,
 (∀ (j:Nat) c,j<k→cs[j]?=some c→hasB c i=true→G[i]?=de f c i)∧((∀ (j:Nat) c,j<k→cs[j]?=some c→hasB c i=false)→G[i]?=g0[i]?)
theorem qS{o n:Int}{f:Th}{c:Cm}(ho:o=f.length)(h:single o n c=0):bz (eS f n).length c=true:=by
 obtain ⟨h1,h2,h3⟩:=Jw h
 have hk:=Jl h1
 have hl:=YU f n
 unfold bz
 simp only [LJ,Bool.or_eq_true,LO]
 refine ⟨Ta,?_⟩
 by_cases h5:c.k=1
 · have:=h2 h5; right; omega
 · left; exact h5
theorem CR{o n:Int}{f G:Th}{cs:List Cm}{k:Nat}{c:Cm}(ho:o=f.length)(hv:VD o n cs)(hs:Safe cs)(hk:cs[k]?=some c)(h:Inv f (eS f n) cs k G):Inv f (eS f n) cs (k+1) (ju G c):=by
 have vG:=Ld hk
 have h1:=hv.one c vG
 obtain ⟨ko,h2,h3⟩:=Jw h1
 have b6:=Jl ko
 have PK:=qS ho h1
 rw [← h.1] at PK
 have vM:=VP ko PK
 have hl:=YU f n
 have hGl:=h.1
 refine ⟨by rw [ZG ko PK,h.1],fun i=>?_⟩
 have jaE:=XI (f:=G) (d:=ei G c) (o:=c.to.toNat) Ta i
 have hex:(ju G c)[i]?=if c.to.toNat≤i∧i<c.to.toNat+(ei G c).length then (ei G c)[i-c.to.toNat]? else G[i]?:=jaE
 have jaF:hasB c i=true→(ju G c)[i]?=de f c i:=fun hb=>by
  have zW:=Qm.1 hb
  rw [hex,LI Ta]
  unfold ei de
  by_cases dq:c.k=1
  · rw [LI dq,LI dq]
    have h4:=h2 dq
    rw [LF,LI Ta,Kc]
    have e:c.fr.toNat+(i-c.to.toNat)=(c.fr+i-c.to).toNat:=by omega
    rw [e,(h.2 _).2 ?_,CQ Ta]
    intro j d hj hd
    cases hbd:hasB d ((c.fr+i-c.to).toNat:Nat) with
    | false=>rfl
    | true=>
     exfalso
     have h5:=Qm.1 hbd
     have h6:=hs k j c d hj hk hd
     unfold SE at h6
     simp only [dq,ne_eq,not_true,if_false] at h6
     rw [gQ] at h6
     omega
  · rw [LH dq,LH dq]
    congr 1; omega
 have cz:hasB c i=false→(ju G c)[i]?=G[i]?:=fun hb=>by
  rw [hex,LH]
  intro hh
  have:hasB c i=true:=Qm.2 Ta
  rw [this] at hb
  cases hb
 refine ⟨fun j d hj hd hb=>?_,fun hn=>?_⟩
 · rcases L7 j k with vm | vm
   · cases M0:hasB c i with
     | false=>rw [cz M0]; exact (h.2 i).1 j d vm hd hb
     | true=>
      exfalso
      have h5:=hv.dis k j c d vm hk hd
      have h6:=Qm.1 hb
      have h7:=Qm.1 M0
      unfold dj at h5
      omega
   · obtain rfl:j=k:=by omega
     rw [hk] at hd
     cases hd
     exact jaF hb
 · rw [cz (hn k c Ta hk)]
   exact (h.2 i).2 fun j d hj hd=>hn j d Ta hd
theorem xY{o n:Int}{f:Th}{cs:List Cm}(ho:o=f.length)(hv:VD o n cs)(hs:Safe cs):∀ k:Nat,k≤cs.length→Inv f (eS f n) cs k ((cs.take k).foldl ju (eS f n))
 | 0,_=>⟨rfl,fun i=>⟨fun j c hj=>absurd hj (Nat.not_lt_zero _),fun _=>rfl⟩⟩
 | k+1,hk=>by
  have hg:cs[k]?=some cs[k]:=La Ta
  have ih:=xY ho hv hs k Ta
  rw [LC,hg,List.foldl_append]
  exact CR ho hv hs hg ih
theorem wB{o n:Int}{f:Th}{cs:List Cm}(ho:o=f.length)(hv:VD o n cs)(hs:Safe cs):zx (eS f n) cs=some (cs.foldl ju (eS f n))∧(cs.foldl ju (eS f n)).length=(eS f n).length∧(cs.foldl ju (eS f n)).take n.toNat=bQ f cs n.toNat:=by
 have hI:=xY ho hv hs cs.length (LP _)
 rw [Lv] at hI
 have hl:=YU f n
 have pB:=hv.lens
 refine ⟨?_,hI.1,?_⟩
 · unfold zx
   rw [LI]
   rw [List.all_eq_true]
   exact fun c hc=>qS ho (hv.one c hc)
 · apply Kb
   intro i
   unfold bQ
   rw [LF,Lt]
   split
   · rename_i hi
     rw [List.getElem?_range hi]
     obtain ⟨j,c,h1,h2,h3⟩:=gP (hv.cov i Ta Ta)
     obtain ⟨b,hb⟩:=mM ho (hv.one c (Ld h2)) h3
     rw [(hI.2 i).1 j c (Le.1 h2).1 h2 h3,hb]
     simp only [Option.map_some]
     rw [qR h1 h2 hb]
   · rename_i hi
     rw [L8 (by simp; omega)]
     rfl
theorem pC{s:Int}(hs:1≤s):∀ {cs:List Cm} {f:Th},(∀ c∈cs,av c=0∧Ji c s≤1048576)→cs.all (bz f.length)=true→zx f (Qd s cs)=some (cs.foldl ju f)
 | [],f,_,_=>rfl
 | c::r,f,hc,hf=>by
  obtain ⟨h1,h2⟩:=hc c Tc
  simp only [List.all_cons,LJ] at hf
  have h3:=vT (f:=f) h1 hs h2
  have h4:zx f [c]=some (ju f c):=by unfold zx; simp [hf.1]
  rw [h4] at h3
  have h5:(chunks c s).all (bz f.length)=true:=by rw [lR h1 hs h2]; exact hf.1
  have h6:(chunks c s).foldl ju f=ju f c:=by
   unfold zx at h3
   rw [LI h5] at h3
   exact Option.some.inj h3
  have hl:=ZG h1 hf.1
  have ih:=pC hs (cs:=r) (f:=ju f c) (fun d hd=>hc d (by simp [hd])) (by rw [hl]; exact hf.2)
  unfold zx at ih
  rw [hl] at ih
  have h7:(Qd s r).all (bz f.length)=true:=by
   cases h:(Qd s r).all (bz f.length) with
   | true=>rfl
   | false=>rw [h] at ih; cases ih
  rw [LI h7] at ih
  have e:Qd s (c::r)=chunks c s++Qd s r:=rfl
  unfold zx
  rw [e,List.all_append,h5,h7,List.foldl_append,h6]
  simp only [Bool.and_self,if_true,List.foldl_cons]
  exact ih
theorem tG{o n s:Int}{f:Th}{cs:List Cm}(ho:o=f.length)(hv:VD o n cs)(hs:Safe cs)(h1:1≤s)(hn:n≤1048576):∃ R,zx (eS f n) (Qd s cs)=some R∧R.length=(eS f n).length∧R.take n.toNat=bQ f cs n.toNat:=by
 obtain ⟨h2,h3,h4⟩:=wB ho hv hs
 refine ⟨_,pC h1 (fun c hc=>?_) ?_,h3,h4⟩
 · obtain ⟨h5,h6,h7⟩:=Jw (hv.one c hc)
   have h8:=J9 h5 h1
   have h9:=Jl h5
   exact ⟨h5,Ta⟩
 · rw [List.all_eq_true]
   exact fun c hc=>qS ho (hv.one c hc)
def ids(n:Nat):List Int:=(List.range n).map fun (i:Nat)=>(i:Int)
theorem tH(n:Nat):ids (n+1)=ids n++[(n:Int)]:=by
 unfold ids
 rw [List.range_succ,Lx]; rfl
theorem Qj(n:Nat):(ids n).length=n:=by simp [ids]
end Go.Pl
namespace Go.Cx
def aZ(o n:Int)(H:Nat→UInt8)(p:Tg)(len cap:Nat):List Value:=[.int .i64 o,.int .i64 n,.int .u8 ((H 0).toNat:Int),.int .u8 ((H 1).toNat:Int),.int .u8 ((H 2).toNat:Int),.int .u8 ((H 3).toNat:Int),.int .u8 ((H 4).toNat:Int),.int .u8 ((H 5).toNat:Int),.int .u8 ((H 6).toNat:Int),.int .u8 ((H 7).toNat:Int),.int .u8 ((H 8).toNat:Int),.int .u8 ((H 9).toNat:Int),.int .u8 ((H 10).toNat:Int),.int .u8 ((H 11).toNat:Int),.int .u8 ((H 12).toNat:Int),.int .u8 ((H 13).toNat:Int),.int .u8 ((H 14).toNat:Int),.int .u8 ((H 15).toNat:Int),.int .u8 ((H 16).toNat:Int),.int .u8 ((H 17).toNat:Int),.int .u8 ((H 18).toNat:Int),.int .u8 ((H 19).toNat:Int),.int .u8 ((H 20).toNat:Int),.int .u8 ((H 21).toNat:Int),.int .u8 ((H 22).toNat:Int),.int .u8 ((H 23).toNat:Int),.int .u8 ((H 24).toNat:Int),.int .u8 ((H 25).toNat:Int),.int .u8 ((H 26).toNat:Int),.int .u8 ((H 27).toNat:Int),.int .u8 ((H 28).toNat:Int),.int .u8 ((H 29).toNat:Int),.int .u8 ((H 30).toNat:Int),.int .u8 ((H 31).toNat:Int),.int .u8 ((H 32).toNat:Int),.int .u8 ((H 33).toNat:Int),.int .u8 ((H 34).toNat:Int),.int .u8 ((H 35).toNat:Int),.int .u8 ((H 36).toNat:Int),.int .u8 ((H 37).toNat:Int),.int .u8 ((H 38).toNat:Int),.int .u8 ((H 39).toNat:Int),.int .u8 ((H 40).toNat:Int),.int .u8 ((H 41).toNat:Int),.int .u8 ((H 42).toNat:Int),.int .u8 ((H 43).toNat:Int),.int .u8 ((H 44).toNat:Int),.int .u8 ((H 45).toNat:Int),.int .u8 ((H 46).toNat:Int),.int .u8 ((H 47).toNat:Int),.int .u8 ((H 48).toNat:Int),.int .u8 ((H 49).toNat:Int),.int .u8 ((H 50).toNat:Int),.int .u8 ((H 51).toNat:Int),.int .u8 ((H 52).toNat:Int),.int .u8 ((H 53).toNat:Int),.int .u8 ((H 54).toNat:Int),.int .u8 ((H 55).toNat:Int),.int .u8 ((H 56).toNat:Int),.int .u8 ((H 57).toNat:Int),.int .u8 ((H 58).toNat:Int),.int .u8 ((H 59).toNat:Int),.int .u8 ((H 60).toNat:Int),.int .u8 ((H 61).toNat:Int),.int .u8 ((H 62).toNat:Int),.int .u8 ((H 63).toNat:Int),.slice p len cap]
theorem iZ{cs:List aa}{k:Nat}{c:aa}(h:cs[k]?=some c):(cs.map aa.cm)[k]?=some c.cm:=by rw [Lt,h]; rfl
theorem tI{cs:List aa}{k:Nat}{d:Pl.Cm}(h:(cs.map aa.cm)[k]?=some d):∃ c,cs[k]?=some c∧c.cm=d:=by
 rw [Lt] at h
 exact Option.map_eq_some_iff.1 h
theorem M1{cs:List aa}{p:Pl.Cm→Prop}(h:∀ (j:Nat) c,j<cs.length→cs[j]?=some c→p c.cm):∀ d∈cs.map aa.cm,p d:=fun d hd=>by
 obtain ⟨c,hc,rfl⟩:=Ln.1 hd
 obtain ⟨j,hj,e⟩:=LU hc
 exact h j c hj (by rw [← e]; exact La hj)
theorem QB(xs:Tl):(xs.flatMap Q9).length=xs.length*2:=JW QM xs
theorem fE.mono{w w':World}{c:aa}(h:fE w c)(hx:Ext No w w'):fE w' c:=⟨h.1,h.2.1,h.2.2.1,h.2.2.2.1,h.2.2.2.2.ext hx⟩
end Go.Cx
namespace Go.Cx
open Go
section
variable {P:Program}{r:Option Nat}{k:Ks}{ops:Array Oper}{md:Md}{n:Nat}{D:List Deferred}{S:Tk}{w:World}{i:Nat}{t:Tr}
variable {ty:TypeId}{pos:String}{af:Array Edge}{g:Option (Nat×Bool)}{dst:Option Tmp}{d:Nat}{w0:World}{X:Bs}{L:Tf}
theorem mN{o:Oper}{f:FuncId}{args:Array Value}{R:Value→World→Prop}{E:List PanicEntry→World→Prop}{K:Act→World→Prop}{a:Act}(hp:vC o=true)(aN:(execOp a.eval o).run P w=.ok (.enter f args) w)(hc:Calls P f args w (Re R E))
 (h:∀ v w',R v w'→K (a.put o.dst v) w') (he:∀ c w',E c w'→k.pn c a w'):rV P r k o K a w:=by
 unfold rV
 rw [JY hp,aN]
 refine ⟨fun h=>by simp [Fw] at h,fZ.2 (hc.mono fun e w' hR=>?_)⟩
 cases e with
 | returned v=>exact h _ _ hR
 | panicked c=>exact he _ _ hR
 | outgrown=>exact hR.elim
theorem Vo{as:Array Operand}{ts:Array TypeId}{f:FuncId}{vs:Ti}{R:Value→World→Prop}{E:List PanicEntry→World→Prop}(ho:eL ops S i=some (⟨dst,.call ⟨.value (.func f),as,ts⟩,ty,pos,af,g⟩,d))(hd:Nat.blt d n=true)
 (ha:fL S as.toList=some vs) (hg:JH P f=true) (hc:CE P f vs w R E) (he:∀ c w',E c w'→∀ a,Fr a n D S→k.pn c a w') (h:∀ v w',R v w'→aQ md w'∧HR P r k ops md n D ((d,v)::S) t w'):HR P r k ops md n D S (.act i t) w:=fun a hf=>by
 obtain ⟨h1,h2,h3⟩:=V4 ho hf
 refine ⟨_,h1,fun _=>?_,fun hw=>by rw [h2] at hw; cases hw⟩
 refine mN (f:=f) (args:=⟨vs⟩) (R:=R) rfl ?_ hc (fun v w' hR=>⟨(h v w' hR).1,?_⟩) fun c w' hE=>he c w' hE a hf
 · rw [X1 hf (l1:=#[]) (l2:=#[]) rfl ha hg]; simp
 · rw [h3]
   exact (h v w' hR).2 _ (hf.put v hd)
theorem GS{x:Operand}{v:Value}(ho:j7 ops S i=some ⟨dst,.panic x,ty,pos,af,g⟩)(hx:ev S x=some v)(aN:(Instr.panic v).run P w=.halt (.panic v) w)(he:∀ a,Fr a n D S→k.pn [{ v:=v,recovered:=false }] a w):HR P r k ops md n D S (.act i t) w:=fun a hf=>by
 obtain ⟨h1,h2,h3⟩:=YH ho hf
 refine ⟨_,h1,fun _=>?_,fun hw=>by rw [h2] at hw; cases hw⟩
 unfold rV
 rw [JY rfl]
 have e:(execOp a.eval ⟨dst,.panic x,ty,pos,af,g⟩).run P w=.halt (.panic v) w:=by
  simp [execOp,hf.eval hx,aN]
 rw [e]
 exact he a hf
def KfD(P:Program)(fn:Func)(R:Value→World→Prop)(E:List PanicEntry→World→Prop):Ks:={ norm:=fun a w=>Leaves P fn a.tmps (Re R E) a.defers .returning w,ret:=fun a w=>Leaves P fn a.tmps (Re R E) a.defers .returning w,ex:=fun _ _ _=>False,pn:=fun c a w=>Leaves P fn a.tmps (Re R E) a.defers (.panicking c) w }
theorem I9{f:FuncId}{fn:Func}{vs:Ti}{R:Value→World→Prop}{E:List PanicEntry→World→Prop}(hf:P.funcs[f]?=some fn)(hb:fn.body.isSome=true)(hn:fn.ntmps=n)(hl:Nat.ble vs.length n=true)
 (h:HW P none (XS fn) (KfD P fn R E) n [] (eJ 0 vs) w):CE P f vs w R E:=by
 obtain ⟨c,hc⟩:=Option.isSome_iff_exists.1 hb
 have lk:XS fn=c:=by simp [XS,hc]
 refine calls_of_wp_defers hf hc ?_
 have dV:=Fr.init vs n (by simpa using hl)
 have hW:=h _ dV
 rw [lk] at hW
 have zc:c.wp P (KfD P fn R E).q { tmps:=vs.toArray++Array.replicate (n-vs.toArray.size) undef,defers:=[] } w:=wpIn_wide.1 hW
 subst hn
 refine wp_mono zc fun e a w' hq=>?_
 cases e with
 | normal=>exact hq
 | ret=>exact hq
 | exit i=>exact hq.elim
 | goto l=>exact hq.elim
 | panic c=>exact hq
 | outgrown=>exact hq.elim
theorem M2{f:FuncId}{fn:Func}{vs:Ti}{u:FrameMode}{R:Value→World→Prop}(hf:P.funcs[f]?=some fn)(hb:fn.body.isSome=true)(hn:fn.ntmps=n)(hl:Nat.ble vs.length n=true)
 (h:∀ (k:Ks) [cH k],(∀ a w,Fin P fn R a w→k.ret a w)→(∀ a w,Fin P fn R a w→k.norm a w)→HW P none (XS fn) k n [] (eJ 0 vs) w):CallsD P f ⟨vs⟩ u w fun e u' w'=>u'=u∧Rt R e w':=by
 obtain ⟨c,hc⟩:=Option.isSome_iff_exists.1 hb
 have lk:XS fn=c:=by simp [XS,hc]
 refine callsD_of_wp hf hc ?_
 have dV:=Fr.init vs n (by simpa using hl)
 haveI:cH (Kf P fn R):=⟨fun _ _ _ _ _ h=>h⟩
 have hW:=h (Kf P fn R) (fun _ _ h=>h) (fun _ _ h=>h) _ dV
 rw [lk] at hW
 have zc:c.wp P (Kf P fn R).q { tmps:=vs.toArray++Array.replicate (n-vs.toArray.size) undef,defers:=[] } w:=wpIn_wide.1 hW
 subst hn
 refine wp_mono zc fun e a w' hq=>?_
 cases e with
 | normal=>obtain ⟨hd,v,hr,hR⟩:=hq; exact ⟨hd,v,hr,v,rfl,hR⟩
 | ret=>obtain ⟨hd,v,hr,hR⟩:=hq; exact ⟨hd,v,hr,v,rfl,hR⟩
 | exit i=>exact hq.elim
 | goto l=>exact hq.elim
 | panic c=>exact hq.elim
 | outgrown=>exact hq.elim
def tJ:FrameMode→Value
 | .panicking ({ v,recovered:=false,goexit:=false }::_)=>v
 | _=>.nilIface
def oc:FrameMode→FrameMode
 | .panicking ({ v,recovered:=false,goexit:=false }::xZ)=>.panicking ({ v,recovered:=true }::xZ)
 | u=>u
def SG:Code→Option Nat
 | .region _ ops false=>match ops.toList with
  | [⟨some t,.call ⟨.builtin .recover,⟨[]⟩,_⟩,_,_,_,none⟩]=>some t
  | _=>none
 | _=>none
theorem od(c₀:Frame)(cs:List Frame):match recoverD (c₀::cs) with
 | some (v,FB)=>v=tJ c₀.mode∧FB={ c₀ with mode:=oc c₀.mode }::cs
 | none=>tJ c₀.mode=.nilIface∧oc c₀.mode=c₀.mode:=by
 unfold recoverD
 simp only
 split
 · rename_i v FB h
   split at h
   · rename_i v' xZ hm
     cases h
     simp only [hm,tJ,oc,and_self]
   · cases h
 · rename_i h
   split at h
   · cases h
   · rename_i hm
     generalize c₀.mode=u at *
     unfold tJ oc
     split
     · rename_i v xZ
       exact absurd rfl (hm v xZ)
     · exact ⟨rfl,rfl⟩
theorem CS{f:FuncId}{fn:Func}{vs:Ti}{u:FrameMode}{t:Nat}{R:Value→World→Prop}(hf:P.funcs[f]?=some fn)(hb:fn.body.isSome=true)(hn:fn.ntmps=n)(hl:Nat.ble vs.length n=true)
 (hs:kI (XS fn)=true) (hr:SG (y7 (XS fn))=some t) (ht:Nat.blt t n=true)
 (h:∀ (k:Ks) [cH k],(∀ a w,Fin P fn R a w→k.ret a w)→(∀ a w,Fin P fn R a w→k.norm a w)→HW P none (y8 (XS fn)) k n [] ((t,tJ u)::eJ 0 vs) w):CallsD P f ⟨vs⟩ u w fun e u' w'=>u'=oc u∧Rt R e w':=by
 obtain ⟨c,hc⟩:=Option.isSome_iff_exists.1 hb
 have lk:XS fn=c:=by simp [XS,hc]
 rw [lk] at hs hr h
 have dV:=Fr.init vs n (by simpa using hl)
 haveI:cH (Kf P fn R):=⟨fun _ _ _ _ _ h=>h⟩
 have hW:=h (Kf P fn R) (fun _ _ h=>h) (fun _ _ h=>h) _ (dV.put (tJ u) ht)
 refine callsD_of_wpS hf hc fun c₀ cs hu=>?_
 cases c <;> simp [kI] at hs
 rename_i x y
 simp only [y7,y8] at hr hW
 unfold SG at hr
 split at hr
 · rename_i id ops
   split at hr
   · rename_i t' ats ty pos af SH
     cases hr
     refine wpS_seq (wpS_region ?_)
     have hsz:ops.size=1:=by rw [← Array.length_toList,SH]; rfl
     have h0:ops[0]?=some ⟨some t,.call ⟨.builtin .recover,⟨[]⟩,ats⟩,ty,pos,af,none⟩:=by rw [← Array.getElem?_toList,SH]; rfl
     rw [hsz]
     have dO:∀ FB u',u'=oc u→FB={ c₀ with mode:=u' }::cs→Exit.thenS (y.wpS P (bodyPostS P fn c₀ cs fun e u' w'=>u'=oc u∧Rt R e w')) (bodyPostS P fn c₀ cs fun e u' w'=>u'=oc u∧Rt R e w') .normal
      (Act.put { tmps:=vs.toArray++Array.replicate (n-vs.toArray.size) undef,defers:=[] } (some t) (tJ u)) FB w:=by
      intro FB u' wC ef
      refine wpS_of_wp ?_
      have zc:y.wp P (Kf P fn R).q (Act.put { tmps:=vs.toArray++Array.replicate (n-vs.toArray.size) undef,defers:=[] } (some t) (tJ u)) w:=wpIn_wide.1 hW
      refine wp_mono zc fun e a w' hq=>?_
      cases e with
      | normal=>obtain ⟨hd,v,hr,hR⟩:=hq; exact ⟨hd,u',ef,v,hr,wC,v,rfl,hR⟩
      | ret=>obtain ⟨hd,v,hr,hR⟩:=hq; exact ⟨hd,u',ef,v,hr,wC,v,rfl,hR⟩
      | exit i=>exact hq.elim
      | goto l=>exact hq.elim
      | panic c=>exact hq.elim
      | outgrown=>exact hq.elim
     have CT:=od c₀ cs
     rw [hu] at CT
     subst hn
     have aN:∀ a:Act,(execOp a.eval ⟨some t,.call ⟨.builtin .recover,⟨[]⟩,ats⟩,ty,pos,af,none⟩).run P w=.ok .recover w:=fun a=>rfl
     simp only [List.range_succ,List.range_zero,L4,wpOpsS,h0,Region.wanted,if_true,aN]
     cases hd:recoverD (c₀::cs) with
     | some x=>
      obtain ⟨v,FB⟩:=x
      rw [hd] at CT
      obtain ⟨rfl,ef⟩:=CT
      simp only
      exact dO FB _ rfl ef
     | none=>
      rw [hd] at CT
      obtain ⟨h1,h2⟩:=CT
      have:=dO (c₀::cs) u h2.symm (by rw [← hu])
      rw [h1] at this
      simp only
      exact this
   · cases hr
 · cases hr
theorem RW.SI:∀ (t:Tr) (i:Nat) (a:Act) (w:World),Qh ops.size i t=true→RW P none k ops none t a w→wpOpsIn (Fw none) 0 P ops k.q (List.range' i (ops.size-i)) a w:=by
 intro t
 induction t with
 | done=>
  intro i a w aq h
  have:ops.size-i=0:=by simp [Qh] at aq; omega
  rw [this]
  exact h
 | pure j t ih=>
  intro i a w aq h
  simp only [Qh,LJ,beq_iff_eq,Nat.blt_eq] at aq
  obtain ⟨⟨rfl,aX⟩,aq⟩:=aq
  obtain ⟨o,v,ho,hy,hr⟩:=h
  rw [show ops.size-j=(ops.size-(j+1))+1 by omega,List.range'_succ,wpOpsIn_cons]
  have hg:ga P none k ops j (fun a w=>wpOpsIn (Fw none) 0 P ops k.q (List.range' (j+1) (ops.size-(j+1))) a w) a w:=by
   refine ⟨o,ho,fun hw=>?_,fun hw=>?_⟩
   · unfold rV
     rw [Oper.semAt_none,hy.1 hw w rfl]
     exact ih _ _ _ aq hr
   · rw [← hy.2 hw]
     exact ih _ _ _ aq hr
  exact hg.wpOpIn
 | act j t ih=>
  intro i a w aq h
  simp only [Qh,LJ,beq_iff_eq,Nat.blt_eq] at aq
  obtain ⟨⟨rfl,aX⟩,aq⟩:=aq
  rw [show ops.size-j=(ops.size-(j+1))+1 by omega,List.range'_succ,wpOpsIn_cons]
  exact (ga.mono h fun a w h=>ih _ _ _ aq h.2).wpOpIn
 | act2=>intro i a w aq; simp [Qh] at aq
 | act3=>intro i a w aq; simp [Qh] at aq
 | cut=>intro i a w aq; simp [Qh] at aq
 | j7=>intro i a w aq; simp [Qh] at aq
 | acto=>intro i a w aq; simp [Qh] at aq
theorem tK{c:Code}(t:Tr)(hc:(match c with | .region _ o d=>!d&&Qh o.size 0 t | _=>false)=true)(h:HR P none k (qh c) none n D S t w):HW P none c k n D S w:=fun a hf=>by
 cases c <;> simp at hc
 rename_i id o d
 obtain ⟨hd,ht⟩:=hc
 subst hd
 have:=RW.SI t 0 a w ht (h a hf)
 rw [Nat.sub_zero] at this
 exact wpIn_region (by rw [List.range_eq_range']; exact this)
theorem x7{c:Operand}{as:Array Operand}{ts:Array TypeId}{f:FuncId}{l1 l2:Array Value}{vs:Ti}(ho:j7 ops S i=some ⟨dst,.defer ⟨.value c,as,ts⟩,ty,pos,af,g⟩)
 (Mo:ev S c=some (.func (.func f) l1 l2)) (ha:fL S as.toList=some vs) (hh:aQ md w) (h:HR P none k ops md n ({ target:=.fn (.func f) l2,args:=l1++⟨vs⟩ }::D) S t w):HR P none k ops md n D S (.act i t) w:=fun a hf=>by
 obtain ⟨h1,h2,h3⟩:=YH ho hf
 refine ⟨_,h1,fun _=>?_,fun hw=>by rw [h2] at hw; cases hw⟩
 unfold rV
 have h4:as.map a.eval=⟨vs⟩:=by obtain ⟨l⟩:=as; simpa using hf.kN ha
 have e:(execOp a.eval ⟨dst,.defer ⟨.value c,as,ts⟩,ty,pos,af,g⟩).run P w=.ok (.defer { target:=.fn (.func f) l2,args:=l1++⟨vs⟩ }) w:=by
  simp [execOp,resolve,hf.eval Mo,h4,Deferred.ofValue]
 rw [Oper.semAt_none,e]
 refine ⟨hh,?_⟩
 rw [h3]
 exact h _ ⟨hf.size,LM _ hf.defers,hf.get⟩
end
end Go.Cx
namespace Go.Pl
def dt(f:Th)(c:Cm):List UInt8:=if c.k=1 then (f.drop c.fr.toNat).take c.ln.toNat else c.bs
def swp(ys:Tj)(j:Nat)(u v:Int):List Int:=(ys.set (j+1) u).set j v
theorem mO:∀ {ys:Tj} {j:Nat} {u v:Int},ys[j]?=some u→ys[j+1]?=some v→(swp ys j u v).Perm ys
 | [],j,u,v,h,_=>by simp at h
 | x::r,0,u,v,h,g=>by
  simp only [L2,Option.some.injEq] at h
  subst h
  match r,g with
  | y::r,g=>
   simp only [LW,L2,Option.some.injEq] at g
   subst g
   exact List.Perm.swap _ _ _
 | x::r,j+1,u,v,h,g=>by
  simp only [LW] at h g
  exact (mO h g).cons x
theorem swp_get{ys:Tj}{j:Nat}{u v:Int}(h:ys[j]?=some u)(g:ys[j+1]?=some v)(i:Nat):(swp ys j u v)[i]?=if i=j then some v else if i=j+1 then some u else ys[i]?:=by
 have h1:=(Le.1 h).1
 have h2:=(Le.1 g).1
 unfold swp
 rw [List.getElem?_set,List.getElem?_set]
 simp only [List.length_set]
 by_cases e:i=j
 · rw [LI e.symm,LI e,LI Ta]
 · rw [LH (fun h=>e h.symm),LH e]
   by_cases e2:i=j+1
   · rw [LI e2.symm,LI e2,LI Ta]
   · rw [LH (fun h=>e2 h.symm),LH e2]
def jC(key:Int→Int)(ys:Tj)(lo i:Nat):Prop:=∀ a b x y,lo≤a→a<b→b<i→ys[a]?=some x→ys[b]?=some y→key x≤key y
def zY(key:Int→Int)(ys:Tj)(lo i j:Nat):Prop:=∀ a b x y,lo≤a→a<b→b≤i→b≠j→ys[a]?=some x→ys[b]?=some y→key x≤key y
theorem jC.one(key:Int→Int)(ys:Tj)(lo:Nat):jC key ys lo (lo+1):=fun a b x y h1 h2 h3=>by omega
theorem jC.snk{key:Int→Int}{ys:Tj}{lo i:Nat}(h:jC key ys lo i):zY key ys lo i i:=fun a b x y h1 h2 h3 h4=>h a b x y h1 h2 Ta
theorem zY.SJ{key:Int→Int}{ys:Tj}{lo i:Nat}(h:zY key ys lo i lo):jC key ys lo (i+1):=fun a b x y h1 h2 h3=>h a b x y h1 h2 Ta Ta
theorem zY.dP{key:Int→Int}{ys:Tj}{lo i j:Nat}{u v:Int}(h:zY key ys lo i (j+1))(hj:lo≤j)(hu:ys[j]?=some u)(hv:ys[j+1]?=some v)(hle:key u≤key v):jC key ys lo (i+1):=fun a b x y h1 h2 h3 ha hb=>by
 by_cases e:b=j+1
 · subst e
   rw [hv] at hb
   cases hb
   by_cases e2:a=j
   · subst e2; rw [hu] at ha; cases ha; exact hle
   · exact Int.le_trans (h a j x u h1 Ta Ta Ta ha hu) hle
 · exact h a b x y h1 h2 Ta e ha hb
theorem zY.step{key:Int→Int}{ys:Tj}{lo i j:Nat}{u v:Int}(h:zY key ys lo i (j+1))(hj:lo≤j)(hi:j+1≤i)(hu:ys[j]?=some u)(hv:ys[j+1]?=some v)(aX:key v<key u):zY key (swp ys j u v) lo i j:=fun a b x y h1 h2 h3 h4 ha hb=>by
 rw [swp_get hu hv] at ha hb
 rw [LH h4] at hb
 by_cases e1:a=j
 · rw [LI e1] at ha
   cases ha
   by_cases e2:b=j+1
   · rw [LI e2] at hb; cases hb; omega
   · rw [LH e2] at hb
     exact h (j+1) b v y Ta Ta h3 e2 hv hb
 · rw [LH e1] at ha
   by_cases e2:b=j+1
   · rw [LI e2] at hb
     cases hb
     rw [LH Ta] at ha
     exact h a j x u h1 Ta Ta Ta ha hu
   · rw [LH e2] at hb
     by_cases e3:a=j+1
     · rw [LI e3] at ha
       cases ha
       exact h j b u y hj Ta h3 e2 hu hb
     · rw [LH e3] at ha
       exact h a b x y h1 h2 h3 e2 ha hb
end Go.Pl
namespace Go.Cx
theorem bj{ys:Tj}{k:Nat}{z:Int}(h:ys[k]?=some z):nth (ys.flatMap encI) (0+k*1)=some (.int .i64 z):=by
 rw [LV]
 have:=YR Jq ys k 0 z h Tb
 rw [Nat.add_zero] at this
 rw [← XN] at this
 exact this
theorem XV{ys:Tj}{k:Nat}{z:Int}(h:k<ys.length):aU (ys.flatMap encI) (0+k*1) [.int .i64 z]=(ys.set k z).flatMap encI:=by
 rw [LV,Nat.mul_one]
 show za _ _ _=_
 induction ys generalizing k with
 | nil=>simp at h
 | cons x r ih=>
  cases k with
  | zero=>rfl
  | succ k=>exact LM (Value.int .i64 x::·) (ih (by simpa using h))
theorem ff(ys:Tj):(ys.flatMap encI).length=ys.length:=by
 have:=JW Jq ys
 omega
end Go.Cx
namespace Go.Pl
def x8(ys:Tj)(i j:Nat)(u v:Int):List Int:=(ys.set i v).set j u
theorem mP{ys:Tj}{i j:Nat}{u v:Int}(h:ys[i]?=some u)(g:ys[j]?=some v):(x8 ys i j u v).Perm ys:=by
 obtain ⟨h1,rfl⟩:=Le.1 h
 obtain ⟨h2,rfl⟩:=Le.1 g
 exact List.set_set_perm h1 h2
theorem qT{ys:Tj}{i j:Nat}{u v:Int}(h:ys[i]?=some u)(g:ys[j]?=some v)(p:Nat):(x8 ys i j u v)[p]?=if p=j then some u else if p=i then some v else ys[p]?:=by
 have h1:=(Le.1 h).1
 have h2:=(Le.1 g).1
 unfold x8
 rw [List.getElem?_set,List.getElem?_set]
 simp only [List.length_set]
 by_cases e:p=j
 · rw [LI e.symm,LI e,LI Ta]
 · rw [LH (fun h=>e h.symm),LH e]
   by_cases e2:p=i
   · rw [LI e2.symm,LI e2,LI Ta]
   · rw [LH (fun h=>e2 h.symm),LH e2]
def mQ(a b n p:Nat):Nat:=if a≤p∧p<a+n then p-a+b else if b≤p∧p<b+n then p-b+a else p
def jS(a m b p:Nat):Nat:=if a≤p∧p<a+(b-m) then p+(m-a) else if a+(b-m)≤p∧p<b then p-(b-m) else p
theorem tL{xs ys:Tj}{a b k:Nat}{u v:Int}(nY:a+k<b)(h:∀ p,ys[p]?=xs[mQ a b k p]?)(hu:ys[a+k]?=some u)(hv:ys[b+k]?=some v)(p:Nat):(x8 ys (a+k) (b+k) u v)[p]?=xs[mQ a b (k+1) p]?:=by
 have h1:=h (a+k)
 have h2:=h (b+k)
 rw [show mQ a b k (a+k)=a+k by unfold mQ; rw [LH Ta,LH Ta],hu] at h1
 rw [show mQ a b k (b+k)=b+k by unfold mQ; rw [LH Ta,LH Ta],hv] at h2
 rw [qT hu hv]
 by_cases e:p=b+k
 · rw [LI e,h1,show mQ a b (k+1) p=a+k by unfold mQ; rw [LH Ta,LI Ta]; omega]
 · rw [LH e]
   by_cases e2:p=a+k
   · rw [LI e2,h2,show mQ a b (k+1) p=b+k by unfold mQ; rw [LI Ta]; omega]
   · rw [LH e2,h p,show mQ a b (k+1) p=mQ a b k p by unfold mQ; (repeat' split) <;> omega]
theorem M3{m i j p:Nat}(h:j<i)(hi:i≤m):mQ (m-i) m j (jS (m-(i-j)) m (m+j) p)=jS (m-i) m (m+j) p:=by
 unfold mQ jS; (repeat' split) <;> omega
theorem M4{m i j p:Nat}(h:i<j)(hi:i≤m):mQ (m-i) (m+j-i) i (jS (m-i) m (m+(j-i)) p)=jS (m-i) m (m+j) p:=by
 unfold mQ jS; (repeat' split) <;> omega
theorem M5{m i p:Nat}(hi:i≤m):mQ (m-i) m i p=jS (m-i) m (m+i) p:=by
 unfold mQ jS; (repeat' split) <;> omega
def ky(key:Int→Int)(xs:Tj)(p:Nat):Int:=key ((xs[p]?).getD 0)
theorem du{key:Int→Int}{xs:Tj}{p:Nat}{x:Int}(h:xs[p]?=some x):ky key xs p=key x:=by unfold ky; rw [h]; rfl
theorem fg{key:Int→Int}{xs ys:Tj}{p q:Nat}(h:ys[p]?=xs[q]?):ky key ys p=ky key xs q:=by unfold ky; rw [h]
def Sk(f:Nat→Int)(a b:Nat):Prop:=∀ p q,a≤p→p<q→q<b→f p≤f q
theorem Sk.le{f:Nat→Int}{a b p q:Nat}(h:Sk f a b)(h1:a≤p)(h2:p≤q)(h3:q<b):f p≤f q:=by
 rcases Nat.lt_or_eq_of_le h2 with h4 | rfl
 · exact h p q h1 h4 h3
 · exact Int.le_refl _
theorem jC.sk{key:Int→Int}{xs:Tj}{a b:Nat}(h:jC key xs a b)(hb:b≤xs.length):Sk (ky key xs) a b:=fun p q h1 h2 h3=>by
 have e1:xs[p]?=some xs[p]:=La Ta
 have e2:xs[q]?=some xs[q]:=La Ta
 rw [du e1,du e2]
 exact h p q _ _ h1 h2 h3 e1 e2
theorem Sk.dP{key:Int→Int}{xs:Tj}{a b:Nat}(h:Sk (ky key xs) a b):jC key xs a b:=fun p q x y h1 h2 h3 h4 h5=>by
 have:=h p q h1 h2 h3
 rw [du h4,du h5] at this
 exact this
def Bm(f:Nat→Int)(a b i k:Nat)(v:Int):Prop:=f k=v∧(∀ p q,a≤p→p<q→q<b→p≠k→q≠k→f p≤f q)∧(∀ p,a≤p→p<i→p≠k→f p≤v)∧(∀ p,i≤p→p<b→p≠k→v≤f p)
theorem Bm.done{f:Nat→Int}{a b i k:Nat}{v:Int}(h:Bm f a b i k v)(hk:k=i∨k+1=i):Sk f a b:=fun p q h1 h2 h3=>by
 obtain ⟨e,h4,h5,h6⟩:=h
 by_cases e1:p=k
 · subst e1; rw [e]; exact h6 q Ta h3 Ta
 · by_cases e2:q=k
   · subst e2; rw [e]; exact h5 p h1 Ta e1
   · exact h4 p q h1 h2 h3 e1 e2
theorem Bm.up{f g:Nat→Int}{a b i k:Nat}{v:Int}(h:Bm f a b i k v)(ha:a≤k)(hi:k+1<i)(hb:i≤b)(hg:∀ p,g p=if p=k+1 then f k else if p=k then f (k+1) else f p):Bm g a b i (k+1) v:=by
 obtain ⟨e,h4,h5,h6⟩:=h
 have g1:∀ p,p≠k→p≠k+1→g p=f p:=fun p h1 h2=>by rw [hg,LH h2,LH h1]
 have g2:g k=f (k+1):=by rw [hg,LH Ta,LI rfl]
 refine ⟨by rw [hg,LI rfl,e],fun p q h1 h2 h3 h7 h8=>?_,fun p h1 h2 h3=>?_,fun p h1 h2 h3=>?_⟩
 · by_cases e1:p=k
   · rw [e1,g2,g1 q Ta h8]; exact h4 (k+1) q Ta Ta h3 Ta Ta
   · rw [g1 p e1 h7]
     by_cases e2:q=k
     · rw [e2,g2]; exact h4 p (k+1) h1 Ta Ta e1 Ta
     · rw [g1 q e2 h8]; exact h4 p q h1 h2 h3 e1 e2
 · by_cases e1:p=k
   · rw [e1,g2]; exact h5 (k+1) Ta hi Ta
   · rw [g1 p e1 h3]; exact h5 p h1 h2 e1
 · rw [g1 p Ta h3]; exact h6 p h1 h2 Ta
theorem Bm.down{f g:Nat→Int}{a b i k:Nat}{v:Int}(h:Bm f a b i (k+1) v)(ha:a≤i)(hi:i≤k)(hb:k+1<b)(hg:∀ p,g p=if p=k then f (k+1) else if p=k+1 then f k else f p):Bm g a b i k v:=by
 obtain ⟨e,h4,h5,h6⟩:=h
 have g1:∀ p,p≠k→p≠k+1→g p=f p:=fun p h1 h2=>by rw [hg,LH h1,LH h2]
 have g2:g (k+1)=f k:=by rw [hg,LH Ta,LI rfl]
 refine ⟨by rw [hg,LI rfl,e],fun p q h1 h2 h3 h7 h8=>?_,fun p h1 h2 h3=>?_,fun p h1 h2 h3=>?_⟩
 · by_cases e1:p=k+1
   · rw [e1,g2,g1 q h8 Ta]; exact h4 k q Ta Ta h3 Ta Ta
   · rw [g1 p h7 e1]
     by_cases e2:q=k+1
     · rw [e2,g2]; exact h4 p k h1 Ta Ta e1 Ta
     · rw [g1 q h8 e2]; exact h4 p q h1 h2 h3 e1 e2
 · rw [g1 p h3 Ta]; exact h5 p h1 h2 Ta
 · by_cases e1:p=k+1
   · rw [e1,g2]; exact h6 k hi Ta Ta
   · rw [g1 p h3 e1]; exact h6 p h1 h2 e1
theorem CU{f g:Nat→Int}{a m b bX s e:Nat}(h1:Sk f a m)(h2:Sk f m b)(hs:a≤s∧s≤m∧s≤bX)(he:m≤e∧e≤b∧bX≤e)(I8:s+e=bX+m)
 (c1:a<s→e<b→f (s-1)≤f e) (c2:s<m→m<e→f (e-1)≤f s) (hg:∀ p,g p=f (jS s m e p)) :
 Sk g a s∧Sk g s bX∧Sk g bX e∧Sk g e b∧∀ p q,a≤p→p<bX→bX≤q→q<b→g p≤g q:=by
 have r1:∀ p,p<s→g p=f p:=fun p h=>by rw [hg,show jS s m e p=p by unfold jS; rw [LH Ta,LH Ta]]
 have r2:∀ p,s≤p→p<bX→g p=f (p+(m-s)):=fun p h h'=>by rw [hg,show jS s m e p=p+(m-s) by unfold jS; rw [LI Ta]]
 have r3:∀ p,bX≤p→p<e→g p=f (p-(e-m)):=fun p h h'=>by rw [hg,show jS s m e p=p-(e-m) by unfold jS; rw [LH Ta,LI Ta]]
 have r4:∀ p,e≤p→g p=f p:=fun p h=>by rw [hg,show jS s m e p=p by unfold jS; rw [LH Ta,LH Ta]]
 refine ⟨fun p q h3 h4 h5=>?_,fun p q h3 h4 h5=>?_,fun p q h3 h4 h5=>?_,fun p q h3 h4 h5=>?_,fun p q h3 h4 h5 h6=>?_⟩
 · rw [r1 p Ta,r1 q Ta]; exact h1 p q h3 h4 Ta
 · rw [r2 p Ta Ta,r2 q Ta Ta]; exact h2 _ _ Ta Ta Ta
 · rw [r3 p Ta Ta,r3 q Ta Ta]; exact h1 _ _ Ta Ta Ta
 · rw [r4 p Ta,r4 q Ta]; exact h2 p q Ta h4 h5
 · by_cases e1:p<s
   · rw [r1 p e1]
     by_cases e2:q<e
     · rw [r3 q h5 e2]; exact h1.le h3 Ta Ta
     · rw [r4 q Ta]
       exact Int.le_trans (h1.le h3 Ta Ta) (Int.le_trans (c1 Ta Ta) (h2.le Ta Ta h6))
   · rw [r2 p Ta h4]
     by_cases e2:q<e
     · rw [r3 q h5 e2]
       exact Int.le_trans (h2.le Ta Ta Ta) (Int.le_trans (c2 Ta Ta) (h1.le Ta Ta Ta))
     · rw [r4 q Ta]; exact h2.le Ta Ta h6
def Wi(xs ys:Tj)(a b:Nat):Prop:=ys.Perm xs∧∀ i,i<a∨b≤i→ys[i]?=xs[i]?
theorem Wi.refl(xs:Tj)(a b:Nat):Wi xs xs a b:=⟨.refl _,fun _ _=>rfl⟩
theorem Wi.trans{xs ys zs:Tj}{a b a' b':Nat}(h:Wi xs ys a b)(g:Wi ys zs a' b')(h1:a≤a')(h2:b'≤b):Wi xs zs a b:=⟨g.1.trans h.1,fun i hi=>(g.2 i Ta).trans (h.2 i hi)⟩
theorem Wi.src{xs ys:Tj}{a b:Nat}(h:Wi xs ys a b){p:Nat}(h1:a≤p)(h2:p<b)(h3:b≤xs.length):∃ q,a≤q∧q<b∧ys[p]?=xs[q]?:=by
 obtain ⟨hp,ho⟩:=h
 have hl:=hp.length_eq
 have e1:ys.take a=xs.take a:=Kb fun i=>by
  rw [LF,LF]; split
  · exact ho i Ta
  · rfl
 have e2:ys.drop b=xs.drop b:=Kb fun i=>by
  rw [Kc,Kc]; exact ho _ Ta
 have dv:∀ l:Tj,l=l.take a++((l.drop a).take (b-a)++l.drop b):=fun l=>by
  have h4:(l.drop a).drop (b-a)=l.drop b:=by rw [List.drop_drop]; congr 1; omega
  rw [← h4,Ke,Ke]
 rw [dv ys,dv xs,e1,e2] at hp
 have hs:=(List.perm_append_right_iff _).1 ((List.perm_append_left_iff _).1 hp)
 have h4:((ys.drop a).take (b-a))[p-a]?=some ys[p]:=by
  rw [LF,LI Ta,Kc,show a+(p-a)=p by omega]
  exact La Ta
 obtain ⟨k,hk⟩:=List.getElem?_of_mem (hs.subset (Ld h4))
 rw [LF] at hk
 split at hk
 · rw [Kc] at hk
   exact ⟨a+k,Ta,Ta,by rw [hk]; exact La Ta⟩
 · cases hk
theorem Wi.swp{xs:Tj}{i j a b:Nat}{u v:Int}(h:xs[i]?=some u)(g:xs[j]?=some v)(hi:a≤i∧i<b)(hj:a≤j∧j<b):Wi xs (x8 xs i j u v) a b:=⟨mP h g,fun p hp=>by rw [qT h g,LH Ta,LH Ta]⟩
theorem fA{key:Int→Int}{z x y:Tj}{a bX b:Nat}(hl:b≤z.length)(hm:a≤bX∧bX≤b)(hc:∀ p q,a≤p→p<bX→bX≤q→q<b→ky key z p≤ky key z q)
 (hx:Wi z x a bX) (sx:Sk (ky key x) a bX) (hy:Wi x y bX b) (sy:Sk (ky key y) bX b):Sk (ky key y) a b:=fun p q h1 h2 h3=>by
 have ZX:=hx.1.length_eq
 have left:∀ p,p<bX→ky key y p=ky key x p:=fun p h=>fg (hy.2 p (.inl h))
 by_cases e1:q<bX
 · rw [left p Ta,left q e1]; exact sx p q h1 h2 e1
 · by_cases e2:bX≤p
   · exact sy p q e2 h2 h3
   · obtain ⟨p',g1,g2,g3⟩:=hx.src h1 (show p<bX by omega) Ta
     obtain ⟨q',g4,g5,g6⟩:=hy.src (show bX≤q by omega) h3 Ta
     rw [left p Ta,fg g3,fg g6,fg (hx.2 q' (.inr g4))]
     exact hc p' q' g1 g2 g4 g5
def Bl(f:Nat→Int)(s n:Nat):Prop:=∀ j,Sk f (s*j) (min (s*j+s) n)
def St(f:Nat→Int)(s n a:Nat):Prop:=∃ i,a=2*s*i∧(∀ j,j<i→Sk f (2*s*j) (2*s*j+2*s))∧∀ j,2*i≤j→Sk f (s*j) (min (s*j+s) n)
theorem Sk.mono{f:Nat→Int}{a b a' b':Nat}(h:Sk f a b)(h1:a≤a')(h2:b'≤b):Sk f a' b':=fun p q h3 h4 h5=>h p q Ta h4 Ta
theorem Sk.same{f g:Nat→Int}{a b:Nat}(h:Sk f a b)(e:∀ p,a≤p→p<b→g p=f p):Sk g a b:=fun p q h3 h4 h5=>by rw [e p h3 Ta,e q Ta h5]; exact h p q h3 h4 h5
theorem Bl.st{f:Nat→Int}{s n:Nat}(h:Bl f s n):St f s n 0:=⟨0,rfl,fun j hj=>absurd hj (Nat.not_lt_zero _),fun j _=>h j⟩
theorem Bl.all{f:Nat→Int}{s n:Nat}(h:Bl f s n)(hs:n≤s):Sk f 0 n:=(h 0).mono (LL _) Ta
theorem St.two{f:Nat→Int}{s n a:Nat}(h:St f s n a)(hn:a+s≤n):Sk f a (a+s)∧Sk f (a+s) (min (a+2*s) n):=by
 obtain ⟨i,rfl,-,h2⟩:=h
 have e1:=h2 (2*i) (LP _)
 have e2:=h2 (2*i+1) Ta
 have e3:s*(2*i)=2*s*i:=by rw [← Nat.mul_assoc,Nat.mul_comm s 2]
 rw [Nat.mul_add,Nat.mul_one,e3] at e2
 rw [e3] at e1
 exact ⟨e1.mono (LP _) Ta,e2.mono (LP _) Ta⟩
theorem St.next{f g:Nat→Int}{s n a:Nat}(h:St f s n a)(hg:Sk g a (a+2*s))(he:∀ p,p<a∨a+2*s≤p→g p=f p):St g s n (a+2*s):=by
 obtain ⟨i,rfl,h1,h2⟩:=h
 refine ⟨i+1,by rw [Nat.mul_add,Nat.mul_one],fun j hj=>?_,fun j hj=>?_⟩
 · rcases Nat.lt_or_eq_of_le (Nat.le_of_lt_succ hj) with h3 | rfl
   · have h4:2*s*(j+1)≤2*s*i:=Nat.mul_le_mul_left _ h3
     rw [Nat.mul_add,Nat.mul_one] at h4
     exact (h1 j h3).same fun p h5 h6=>he p (.inl Ta)
   · exact hg
 · have h4:s*(2*(i+1))≤s*j:=Nat.mul_le_mul_left _ hj
   have h5:s*(2*(i+1))=2*s*i+2*s:=by rw [Nat.mul_add,Nat.mul_add,← Nat.mul_assoc,Nat.mul_comm s 2]
   exact (h2 j Ta).same fun p h6 h7=>he p (.inr Ta)
theorem St.fin{f g:Nat→Int}{s n a:Nat}(h:St f s n a)(h0:n<a+2*s)(hg:Sk g a n)(he:∀ p,p<a→g p=f p):Bl g (2*s) n:=fun j=>by
 obtain ⟨i,rfl,h1,h2⟩:=h
 by_cases hj:j<i
 · have h4:2*s*(j+1)≤2*s*i:=Nat.mul_le_mul_left _ hj
   rw [Nat.mul_add,Nat.mul_one] at h4
   exact ((h1 j hj).same fun p h5 h6=>he p Ta).mono (LP _) Ta
 · have h4:2*s*i≤2*s*j:=Nat.mul_le_mul_left _ Ta
   exact hg.mono h4 Ta
theorem St.one{f:Nat→Int}{s n a:Nat}(h:St f s n a)(h0:n≤a+s):Sk f a n:=by
 obtain ⟨i,rfl,-,h2⟩:=h
 have e1:=h2 (2*i) (LP _)
 have e3:s*(2*i)=2*s*i:=by rw [← Nat.mul_assoc,Nat.mul_comm s 2]
 rw [e3] at e1
 exact e1.mono (LP _) Ta
theorem GU{f g:Nat→Int}{s k:Nat}(h:∀ j,j<k→Sk f (s*j) (s*j+s))(hg:Sk g (s*k) (s*k+s))(he:∀ p,p<s*k→g p=f p):∀ j,j<k+1→Sk g (s*j) (s*j+s):=fun j hj=>by
 rcases Nat.lt_or_eq_of_le (Nat.le_of_lt_succ hj) with h3 | rfl
 · have h4:s*(j+1)≤s*k:=Nat.mul_le_mul_left _ h3
   rw [Nat.mul_add,Nat.mul_one] at h4
   exact (h j h3).same fun p h5 h6=>he p Ta
 · exact hg
theorem M6{f g:Nat→Int}{s n k:Nat}(h:∀ j,j<k→Sk f (s*j) (s*j+s))(hn:n<s*k+s)(hg:Sk g (s*k) n)(he:∀ p,p<s*k→g p=f p):Bl g s n:=fun j=>by
 by_cases hj:j<k
 · have h4:s*(j+1)≤s*k:=Nat.mul_le_mul_left _ hj
   rw [Nat.mul_add,Nat.mul_one] at h4
   exact ((h j hj).same fun p h5 h6=>he p Ta).mono (LP _) Ta
 · have h4:s*k≤s*j:=Nat.mul_le_mul_left _ Ta
   exact hg.mono h4 Ta
end Go.Pl
namespace Go.Pl
def zZ(cs:List Cm)(z:Int):Int:=match cs[z.toNat]? with | some c=>aw c | none=>0
def Zi(cs:List Cm)(z:Int):Int:=match cs[z.toNat]? with | some c=>c.to | none=>0
def dx(cs:List Cm):Tj→Int
 | []=>0
 | z::r=>zZ cs z+dx cs r
theorem tM(cs:List Cm):∀ (a b:Tj),dx cs (a++b)=dx cs a+dx cs b
 | [],b=>by rw [L4,dx,Int.zero_add]
 | z::r,b=>by rw [List.cons_append,dx,tM cs r b,dx,Int.add_assoc]
theorem Ve{cs:List Cm}{zs:Tj}{i:Nat}{z:Int}(h:zs[i]?=some z):dx cs (zs.take (i+1))=dx cs (zs.take i)+zZ cs z:=by
 rw [LC,h,Option.toList,tM,dx,dx,Int.add_zero]
section
variable {o n:Int}{cs:List Cm}{zs:Tj}
theorem Xe(hp:zs.Perm (ids cs.length)){i:Nat}{z:Int}(h:zs[i]?=some z):∃ (k:Nat) (c:Cm),z=k∧cs[k]?=some c∧Zi cs z=c.to∧zZ cs z=aw c:=by
 have hz:=hp.subset (Ld h)
 unfold ids at hz
 obtain ⟨k,hk,rfl⟩:=Ln.1 hz
 have hk:=List.mem_range.1 hk
 have hc:cs[k]?=some cs[k]:=La hk
 exact ⟨k,cs[k],rfl,hc,by unfold Zi; rw [LD,hc],by unfold zZ; rw [LD,hc]⟩
theorem GV(hp:zs.Perm (ids cs.length)){i j:Nat}{z:Int}(h:zs[i]?=some z)(g:zs[j]?=some z):i=j:=by
 have hn:zs.Nodup:=by
  rw [hp.nodup_iff]
  unfold ids
  exact List.Pairwise.map _ (fun (a b:Nat) (h:a≠b)=>show (a:Int)≠(b:Int) by omega) List.nodup_range
 have hi:=(Le.1 h).1
 exact (List.getElem?_inj hi hn).1 (h.trans g.symm)
theorem tN(hp:zs.Perm (ids cs.length)){k:Nat}(hk:k<cs.length):∃ m:Nat,zs[m]?=some (k:Int):=by
 have:(k:Int)∈zs:=hp.symm.subset (by unfold ids; exact Ln.2 ⟨k,List.mem_range.2 hk,rfl⟩)
 obtain ⟨m,hm⟩:=List.getElem?_of_mem this
 exact ⟨m,hm⟩
theorem qU(hv:VD o n cs)(hp:zs.Perm (ids cs.length))(hs:jC (Zi cs) zs 0 cs.length):∀ (i:Nat) (z:Int),zs[i]?=some z→Zi cs z=dx cs (zs.take i):=by
 have hlen:zs.length=cs.length:=by rw [hp.length_eq,Qj]
 intro i
 induction i using Nat.strongRecOn with
 | ind i ih=>
  intro z h
  have hi:=(Le.1 h).1
  obtain ⟨k,c,hzk,hc,ht,hl⟩:=Xe hp h
  obtain ⟨ai,ao,aD⟩:=Jw (hv.one c (Ld hc))
  have b6:=Jl ai
  -- not below
  have iA:dx cs (zs.take i)≤c.to:=by
   cases i with
   | zero=>rw [List.take_zero]; show (0:Int)≤_; omega
   | succ j=>
    obtain ⟨y,hy⟩:∃ y,zs[j]?=some y:=⟨_,La Ta⟩
    obtain ⟨k2,d,Bj,hd,I',mR⟩:=Xe hp hy
    have h1:=ih j Ta y hy
    have h2:=Ve (cs:=cs) hy
    have h3:=hs j (j+1) y z Ta Ta Ta hy h
    have mS:=Jl (Jw (hv.one d (Ld hd))).1
    have qA:k≠k2:=fun e=>by
     have:z=y:=by rw [hzk,Bj,e]
     subst this
     have:=GV hp h hy
     omega
    have hdj:dj c d∨dj d c:=by
     rcases L7 k2 k with aX | iA
     · exact .inl (hv.dis k k2 c d aX hc hd)
     · exact .inr (hv.dis k2 k d c Ta hd hc)
    unfold dj at hdj
    omega
  -- not above
  rw [ht]
  rcases Int.lt_or_eq_of_le iA with hgt | he
  · exfalso
    have fN:0≤dx cs (zs.take i):=by
     cases i with
     | zero=>rw [List.take_zero]; exact Int.le_refl _
     | succ j=>
      obtain ⟨y,hy⟩:∃ y,zs[j]?=some y:=⟨_,La Ta⟩
      obtain ⟨k2,d,Bj,hd,I',mR⟩:=Xe hp hy
      have h1:=ih j Ta y hy
      have h2:=Ve (cs:=cs) hy
      have mS:=Jl (Jw (hv.one d (Ld hd))).1
      omega
    obtain ⟨d,hd,hb⟩:=hv.cov (dx cs (zs.take i)) fN Ta
    rw [Qm] at hb
    obtain ⟨kd,M7⟩:=List.getElem?_of_mem hd
    obtain ⟨m,hm⟩:=tN hp (Le.1 M7).1
    have hmi:=(Le.1 hm).1
    obtain ⟨k3,d',h31,SK,h33,h34⟩:=Xe hp hm
    have:k3=kd:=by omega
    subst this
    rw [M7] at SK
    cases SK
    rcases L7 m i with aX | hge2
    · have h1:=ih m aX _ hm
      have h2:=Ve (cs:=cs) hm
      have pD:∀ a b:Nat,a≤b→b≤i→dx cs (zs.take a)≤dx cs (zs.take b):=by
       intro a b nY
       induction b with
       | zero=>intro _; rw [show a=0 by omega]; exact Int.le_refl _
       | succ b ihb=>
        intro hbi
        rcases L7 a (b+1) with SM | SM
        · obtain ⟨y,hy⟩:∃ y,zs[b]?=some y:=⟨_,La Ta⟩
          obtain ⟨k2,e2,Bj,M8,I',mR⟩:=Xe hp hy
          have mS:=Jl (Jw (hv.one e2 (Ld M8))).1
          have:=ihb Ta Ta
          rw [Ve hy]
          omega
        · rw [show a=b+1 by omega]; exact Int.le_refl _
      have:=pD (m+1) i Ta (LP _)
      omega
    · rcases L7 i m with aX | hge3
      · have:=hs i m z _ Ta aX Ta h hm
        omega
      · have:m=i:=by omega
        subst this
        rw [h] at hm
        cases hm
        omega
  · omega
theorem tO(hv:VD o n cs)(hp:zs.Perm (ids cs.length))(hs:jC (Zi cs) zs 0 cs.length):dx cs zs=n:=by
 have hlen:zs.length=cs.length:=by rw [hp.length_eq,Qj]
 have hl:=hv.lens
 have SN:=qU hv hp hs
 have pD:∀ b:Nat,b≤zs.length→0≤dx cs (zs.take b)∧dx cs (zs.take b)≤n:=by
  intro b
  induction b with
  | zero=>intro _; rw [List.take_zero]; exact ⟨Int.le_refl _,hl.2.1⟩
  | succ b ihb=>
   intro hb
   obtain ⟨y,hy⟩:∃ y,zs[b]?=some y:=⟨_,La Ta⟩
   obtain ⟨k2,e2,Bj,M8,I',mR⟩:=Xe hp hy
   obtain ⟨q1,q2,q3⟩:=Jw (hv.one e2 (Ld M8))
   have mS:=Jl q1
   have:=SN b y hy
   rw [Ve hy]
   omega
 have h9:=pD zs.length (LP _)
 rw [Lv] at h9
 rcases Int.lt_or_eq_of_le h9.2 with aX | he
 · exfalso
   obtain ⟨d,hd,hb⟩:=hv.cov (dx cs zs) h9.1 aX
   rw [Qm] at hb
   obtain ⟨kd,M7⟩:=List.getElem?_of_mem hd
   obtain ⟨m,hm⟩:=tN hp (Le.1 M7).1
   have hmi:=(Le.1 hm).1
   obtain ⟨k3,d',h31,SK,h33,h34⟩:=Xe hp hm
   have:k3=kd:=by omega
   subst this
   rw [M7] at SK
   cases SK
   have h1:=SN m _ hm
   have h2:=Ve (cs:=cs) hm
   have iA:∀ a b:Nat,a≤b→b≤zs.length→dx cs (zs.take a)≤dx cs (zs.take b):=by
    intro a b nY
    induction b with
    | zero=>intro _; rw [show a=0 by omega]; exact Int.le_refl _
    | succ b ihb=>
     intro hbi
     rcases L7 a (b+1) with SM | SM
     · obtain ⟨y,hy⟩:∃ y,zs[b]?=some y:=⟨_,La Ta⟩
       obtain ⟨k2,e2,Bj,M8,I',mR⟩:=Xe hp hy
       have mS:=Jl (Jw (hv.one e2 (Ld M8))).1
       have:=ihb Ta Ta
       rw [Ve hy]
       omega
     · rw [show a=b+1 by omega]; exact Int.le_refl _
   have h3:=iA (m+1) zs.length Ta (LP _)
   rw [Lv] at h3
   omega
 · exact he
end
end Go.Pl
namespace Go.Pl
def hh(a b:Th)(i:Nat):UInt8:=if i<32 then a.getD i 0 else b.getD (i-32) 0
end Go.Pl
namespace Go.Cx
def hV(a:Th):List Value:=[.int .u8 ((a.getD 0 0).toNat:Int),.int .u8 ((a.getD 1 0).toNat:Int),.int .u8 ((a.getD 2 0).toNat:Int),.int .u8 ((a.getD 3 0).toNat:Int),.int .u8 ((a.getD 4 0).toNat:Int),.int .u8 ((a.getD 5 0).toNat:Int),.int .u8 ((a.getD 6 0).toNat:Int),.int .u8 ((a.getD 7 0).toNat:Int),.int .u8 ((a.getD 8 0).toNat:Int),.int .u8 ((a.getD 9 0).toNat:Int),.int .u8 ((a.getD 10 0).toNat:Int),.int .u8 ((a.getD 11 0).toNat:Int),.int .u8 ((a.getD 12 0).toNat:Int),.int .u8 ((a.getD 13 0).toNat:Int),.int .u8 ((a.getD 14 0).toNat:Int),.int .u8 ((a.getD 15 0).toNat:Int),.int .u8 ((a.getD 16 0).toNat:Int),.int .u8 ((a.getD 17 0).toNat:Int),.int .u8 ((a.getD 18 0).toNat:Int),.int .u8 ((a.getD 19 0).toNat:Int),.int .u8 ((a.getD 20 0).toNat:Int),.int .u8 ((a.getD 21 0).toNat:Int),.int .u8 ((a.getD 22 0).toNat:Int),.int .u8 ((a.getD 23 0).toNat:Int),.int .u8 ((a.getD 24 0).toNat:Int),.int .u8 ((a.getD 25 0).toNat:Int),.int .u8 ((a.getD 26 0).toNat:Int),.int .u8 ((a.getD 27 0).toNat:Int),.int .u8 ((a.getD 28 0).toNat:Int),.int .u8 ((a.getD 29 0).toNat:Int),.int .u8 ((a.getD 30 0).toNat:Int),.int .u8 ((a.getD 31 0).toNat:Int)]
theorem gS{a:Th}(h:a.length=32):a.flatMap Jk=hV a:=
 match a,h with
 | [a0,a1,a2,a3,a4,a5,a6,a7,a8,a9,a10,a11,a12,a13,a14,a15,a16,a17,a18,a19,a20,a21,a22,a23,a24,a25,a26,a27,a28,a29,a30,a31],_=>rfl
end Go.Cx
namespace Go.Cx
section
variable {P:Program}{md:Md}{w:World}{n:Nat}{D:List Deferred}{S:Tk}{dst:Option Tmp}{ty:TypeId}{pos:String}{af:Array Edge}{g:Option (Nat×Bool)}
theorem mT{t:TypeId}{ps:Array (Nat×Operand)}{xs:List Operand}{is:List Nat}{fs:List (Nat×Nat)}{vs cs z:Ti}(hz:iF P t=some z)(eD:BD P t=some fs)(xo:ps.toList.map (·.2)=xs)(F7:ps.toList.map (·.1)=is)(hx:fL S xs=some vs)
 (aq:okB fs z.length (is.zip vs)=true) (ef:fU fs z (is.zip vs)=cs):∀ a,Fr a n D S→Yl P md w a ⟨dst,.build t ps,ty,pos,af,g⟩ (.agg ⟨cs⟩):=fun a hf u _=>by
 have h1:=iH hf xo F7 hx
 subst ef
 simp only [execOp,h1,Sem.run_bind,run_build hz eD aq u,Result.andThen_ok,Sem.run_pure]
end
end Go.Cx
namespace Go.Pl
def Xd(cs:List Cm)(zs:Tj):List Cm:=zs.filterMap fun z=>cs[z.toNat]?
section
variable {o n:Int}{f:Th}{cs:List Cm}{zs:Tj}
theorem M9{c:Cm}{j:Nat}(ho:o=f.length)(h:single o n c=0)(hj:(j:Int)<aw c):de f c (c.to+j).toNat=(dt f c)[j]?:=by
 obtain ⟨h1,h2,h3⟩:=Jw h
 have hk:=Jl h1
 unfold de dt
 split
 · rename_i dq
   have:=h2 dq
   rw [LF,LI Ta,Kc]
   congr 1
   omega
 · congr 1
   omega
theorem ZH{c:Cm}(ho:o=f.length)(h:single o n c=0):((dt f c).length:Int)=aw c:=by
 obtain ⟨h1,h2,h3⟩:=Jw h
 have hk:=Jl h1
 unfold dt
 split
 · rename_i dq
   have:=h2 dq
   rw [Lg,Lm]
   omega
 · omega
theorem M'(hv:VD o n cs){k:Nat}{c:Cm}{x:Int}(hc:cs[k]?=some c)(hx:hasB c x=true):tF cs x=k:=by
 obtain ⟨j,d,h1,h2,h3⟩:=gP ⟨c,Ld hc,hx⟩
 rw [h1]
 rcases Nat.lt_trichotomy j k with h | h | h
 · have:=hv.dis k j c d h hc h2
   rw [Qm] at hx h3
   unfold dj at this
   omega
 · rw [h]
 · have:=hv.dis j k d c h h2 hc
   rw [Qm] at hx h3
   unfold dj at this
   omega
theorem wD(hv:VD o n cs)(ho:o=f.length){k:Nat}{c:Cm}{j:Nat}{b:UInt8}(hc:cs[k]?=some c)(hb:(dt f c)[j]?=some b):SF f cs (c.to+j).toNat=b:=by
 have h:=hv.one c (Ld hc)
 have hl:=ZH ho h
 have hj:=(Le.1 hb).1
 have hk:=Jl (Jw h).1
 have hx:(((c.to+j).toNat:Nat):Int)=c.to+j:=by omega
 refine qR (M' hv hc ?_) hc ((M9 ho h Ta).trans hb)
 rw [Qm,hx]
 omega
theorem GW(hv:VD o n cs)(ho:o=f.length){k:Nat}{c:Cm}(hc:cs[k]?=some c):bQ f cs (c.to+aw c).toNat=bQ f cs c.to.toNat++dt f c:=by
 have h:=hv.one c (Ld hc)
 have hl:=ZH ho h
 have hk:=Jl (Jw h).1
 have e:(c.to+aw c).toNat=c.to.toNat+(dt f c).length:=by omega
 unfold bQ
 rw [e,List.range_add,Lx,List.map_map]
 congr 1
 apply Kb
 intro j
 rw [Lt]
 by_cases hj:j<(dt f c).length
 · rw [List.getElem?_range hj,La hj]
   have hb:(dt f c)[j]?=some (dt f c)[j]:=La hj
   have:=wD hv ho hc hb
   rw [show (c.to+j).toNat=c.to.toNat+j by omega] at this
   exact LM some this
 · rw [L8 (by rw [List.length_range]; omega),L8 Ta]; rfl
theorem Ze(hv:VD o n cs)(ho:o=f.length)(hp:zs.Perm (ids cs.length))(hs:jC (Zi cs) zs 0 cs.length):∀ i:Nat,i≤zs.length→((Xd cs (zs.take i)).flatMap (dt f))=bQ f cs (dx cs (zs.take i)).toNat
 | 0,_=>by rw [List.take_zero]; rfl
 | i+1,hi=>by
  obtain ⟨z,hz⟩:∃ z,zs[i]?=some z:=⟨_,La Ta⟩
  obtain ⟨k,c,hzk,hc,ht,hl⟩:=Xe hp hz
  have h1:=qU hv hp hs i z hz
  rw [Ve hz,← h1,ht,hl,GW hv ho hc]
  have ih:=Ze hv ho hp hs i Ta
  rw [← h1,ht] at ih
  rw [← ih]
  unfold Xd
  rw [LC,hz,List.filterMap_append,Lh]
  congr 1
  simp [hzk,hc]
theorem tP(hv:VD o n cs)(ho:o=f.length)(hp:zs.Perm (ids cs.length))(hs:jC (Zi cs) zs 0 cs.length):(Xd cs zs).flatMap (dt f)=bQ f cs n.toNat:=by
 have:=Ze hv ho hp hs zs.length (LP _)
 rw [Lv,tO hv hp hs] at this
 exact this
end
end Go.Pl
namespace Go.Cx
open Go
section
variable {P:Program}{r:Option Nat}{k:Ks}{ops:Array Oper}{md:Md}{n:Nat}{D:List Deferred}{S:Tk}{w:World}{i:Nat}{t:Tr}
variable {ty:TypeId}{pos:String}{af:Array Edge}{g:Option (Nat×Bool)}{dst:Option Tmp}{d:Nat}{w0:World}{X:Bs}{L:Tf}
theorem CV{c:Operand}{a9:Array Operand}{ts:Array TypeId}{f:FuncId}{l1 l2:Array Value}{vs:Ti}{R:Value→World→Prop}{E:List PanicEntry→World→Prop}(ho:eL ops S i=some (⟨dst,.call ⟨.value c,a9,ts⟩,ty,pos,af,g⟩,d))(hd:Nat.blt d n=true)
 (Mo:ev S c=some (.func (.func f) l1 l2)) (ha:fL S a9.toList=some vs) (hg:JH P f=true) (hc:CE P f (l1.toList++vs++l2.toList) w R E) (he:∀ c w',E c w'→∀ a,Fr a n D S→k.pn c a w') (h:∀ v w',R v w'→aQ md w'∧HR P r k ops md n D ((d,v)::S) t w'):HR P r k ops md n D S (.act i t) w:=fun a hf=>by
 obtain ⟨h1,h2,h3⟩:=V4 ho hf
 refine ⟨_,h1,fun _=>?_,fun hw=>by rw [h2] at hw; cases hw⟩
 refine mN (f:=f) (args:=⟨l1.toList++vs++l2.toList⟩) (R:=R) rfl ?_ hc (fun v w' hR=>⟨(h v w' hR).1,?_⟩) fun c w' hE=>he c w' hE a hf
 · rw [X1 hf Mo ha hg]; congr 2; obtain ⟨l1⟩:=l1; obtain ⟨l2⟩:=l2; simp
 · rw [h3]
   exact (h v w' hR).2 _ (hf.put v hd)
theorem GY{d:Nat}{t t':TypeId}{b:Value}{ms:Array (String×TypeId)}(h:P.underlying t=some (.interface ms))(u:World):(Op.equalIn (d+1) t (.iface t' b) .nilIface).run P u=.ok false u:=by simp [Op.equalIn,run_underlying h]
theorem CW{d:Nat}{t:TypeId}{ms:Array (String×TypeId)}(h:P.underlying t=some (.interface ms))(u:World):(Op.equalIn (d+1) t .nilIface .nilIface).run P u=.ok true u:=by simp [Op.equalIn,run_underlying h]
def SO(P:Program)(t:TypeId):Bool:=match P.underlying t with | some (.interface _)=>true | _=>false
def wE:Value→Bool | .nilIface=>true | _=>false
theorem CX{t yt:TypeId}{x y:Operand}{v:Value}(hx:ev S x=some v)(hy:y=.const .nilIface)(h:SO P t=true)(hv:(match v with | .nilIface=>true | .iface _ _=>true | _=>false)=true) :
 ∀ a,Fr a n D S→Yl P md w a ⟨dst,.binOp .eql t x y yt,ty,pos,af,g⟩ (.bool (wE v)):=by
 subst hy
 refine QU hx rfl fun u=>?_
 unfold SO at h
 split at h
 · rename_i e he
   cases v <;> simp at hv
   · rename_i t' b
     have hq:(Op.equal t (.iface t' b) .nilIface).run P u=.ok false u:=GY (d:=9999) he u
     simp only [eqGuard,binOp,Sem.run_bind,Bool.not_true,L0,if_false,Sem.run_pure,Result.andThen_ok,hq,wE]
   · have hq:(Op.equal t .nilIface .nilIface).run P u=.ok true u:=CW (d:=9999) he u
     simp [eqGuard,binOp,hq,wE]
 · cases h
theorem CY{x:Operand}{xt t:TypeId}{v:Value}{dd:TypeDesc}(hx:ev S x=some (.iface t v))(hu:P.underlying t=some dd)(hd:(match dd with | .interface _=>false | _=>true)=true) :
 ∀ a,Fr a n D S→Yl P md w a ⟨dst,.typeAssert x xt t true,ty,pos,af,g⟩ (.tuple #[v,.bool true]):=fun a hf u _=>by
 cases dd <;> simp at hd <;> simp [execOp,hf.eval hx,Instr.typeAssert,JC hu]
theorem qV{fn:Func}{R:Value→World→Prop}{rs:List ResultVar}{vs:Ti}{v:Value}{a:Act}(hr:fn.results.toList=rs)(h:Rs P w S rs vs)(ht:Tup vs v)(hR:R v w)(hf:Fr a n D S):∃ v,(results fn a.tmps).run P w=.ok v w∧R v w:=
 fin (K:=fun a w=>∃ v,(results fn a.tmps).run P w=.ok v w∧R v w) (n:=n) (fun a w h=>h.2) hr h ht hR { a with defers:=[] } ⟨hf.size,rfl,hf.get⟩
theorem wF{fn:Func}{tmps:Array Value}{R:Value→World→Prop}{E:List PanicEntry→World→Prop}{f:FuncId}{l1 l2:Array Value}{u u1:FrameMode}{R1:Value→World→Prop}(hu:u≠.run)(hc:CallsD P f (l1++l2) u w fun e u' w'=>u'=u1∧Rt R1 e w')
 (hg:JH P f=true) (hs:settle u1=.returning) (h:∀ v w',R1 v w'→∃ v,(results fn tmps).run P w'=.ok v w'∧R v w'):Leaves P fn tmps (Re R E) [{ target:=.fn (.func f) l2,args:=l1 }] u w:=by
 refine leaves_cons hu (f:=f) (args:=l1++l2) ?_ (hc.mono fun e u' w' hR=>?_)
 · simp [invoke,gr hg]
 · obtain ⟨rfl,v,rfl,hv⟩:=hR
   simp only
   rw [hs]
   exact h v w' hv
end
end Go.Cx
