/- Part 9 of the proof of TopShapes: Rgt RgtB Dd DdB DdC DdD DdE DdF DdG DdH DdI DdJ Sf SfB Fm FmB FmC. Conditions: the hypotheses of each theorem. -/
import Derived.Test.YtaehgpeenaomcaaGreatY07
import Derived.Test.YtaehgpeenaomcaaGreatChecked
set_option maxRecDepth 10000
set_option maxHeartbeats 4000000
set_option linter.unusedVariables false
set_option linter.unusedSimpArgs false
namespace Go.Proofs.YtaehgpeenaomcaaGreat
open Go Go.Cx
def few18(s:Int)(xs:List CmdV):Bool:=decide (xs.length≤30∧1≤s∧(∀ c∈xs,Pl.ccheck c.cm=0∧c.d.bs.length≤300∧Pl.Ji c.cm s≤300)∧Pl.first s (xs.map CmdV.cm) xs.length≤300)
def caV(r:Option Addr)(n cr:Nat)(o nn:Int)(H:Nat→UInt8)(q:Option Addr)(len cq:Nat)(s b m:Int):List Value:=.slice r n cr::(dlV o nn H q len cq++[.int .i64 s,.int .i64 b,.int .i64 m])
theorem smb{oo nn b:Int}{cs:List CmdV}(h:(bif (decide ((cs.length:Int)>20)||decide (oo>300)||decide (nn>300)||!(cs.all (fun c=>decide (c.d.bs.length≤300))&&decide (cs.length≤40))||!Pl.vdB oo nn (cs.map CmdV.cm)||decide (b>300)) then false else (Pl.valid 0 nn&&(decide (b<1)||few18 b cs)))=true):cs.length≤20∧nn≤300∧b≤300∧Pl.valid 0 nn=true:=by
 cases hq:(decide ((cs.length:Int)>20)||decide (oo>300)||decide (nn>300)||!(cs.all (fun c=>decide (c.d.bs.length≤300))&&decide (cs.length≤40))||!Pl.vdB oo nn (cs.map CmdV.cm)||decide (b>300)) with
 | true=>rw [hq] at h; cases h
 | false=>
  rw [hq] at h
  simp only [cond_false,bA] at h
  simp only [bD,dF] at hq
  exact ⟨by omega,by omega,by omega,h.1⟩
theorem sm20{x:Bool}{oo nn b:Int}{cs:List CmdV}(h:(x||!(bif (decide ((cs.length:Int)>20)||decide (oo>300)||decide (nn>300)||!(cs.all (fun c=>decide (c.d.bs.length≤300))&&decide (cs.length≤40))||!Pl.vdB oo nn (cs.map CmdV.cm)||decide (b>300)) then false else (Pl.valid 0 nn&&(decide (b<1)||few18 b cs))))=false):cs.length≤20:=by
 rw [LS,Bool.not_eq_false'] at h
 exact (smb h.2).1
theorem rbf{f:List UInt8}{oo nn sz bd mo:Int}{cs:List CmdV}(h:(decide ((f.length:Int)>300)||!(bif (decide ((cs.length:Int)>20)||decide (oo>300)||decide (nn>300)||!(cs.all (fun c=>decide (c.d.bs.length≤300))&&decide (cs.length≤40))||!Pl.vdB oo nn (cs.map CmdV.cm)||decide (bd>300)) then false else (Pl.valid 0 nn&&(decide (bd<1)||few18 bd cs)))||!((cs.all (fun c=>decide (c.d.bs.length≤300))&&decide (cs.length≤40))&&Pl.vdB oo nn (cs.map CmdV.cm)&&decide (oo=f.length)&&decide (nn≤3000))||decide (bd<1)||decide (sz<1)||decide (sz>1000)||decide (mo<0)||decide (mo>100))=false):oo=f.length∧f.length≤300∧nn≤300∧Pl.valid 0 nn=true∧1≤bd∧bd≤300∧1≤sz∧sz≤1000:=by
 rw [LS,LS,LS,LS,LS,LS,LS] at h
 obtain ⟨⟨⟨⟨⟨⟨⟨a1,a2⟩,a3⟩,a4⟩,a5⟩,a6⟩,a7⟩,a8⟩:=h
 rw [Bool.not_eq_false'] at a2 a3
 obtain ⟨b1,b2,b3,b4⟩:=smb a2
 simp only [bA,dT] at a3
 simp only [dF] at a1 a4 a5 a6
 exact ⟨a3.1.2,by omega,b2,b4,by omega,b3,by omega,by omega⟩
theorem r18_few(s:Int)(q:Option Addr)(cq:Nat)(xs:List CmdV)(w0:World)(hx:Rd w0 q (xs.flatMap JM))(hok:∀ c∈xs,okC w0 c)(hl:xs.length≤9223372036854775807)(hs:Pl.I64 s):C Tryz.prog 33 [.int .i64 s,.slice q xs.length cq] w0 fun v w'=>v=.bool (few18 s xs)∧Ext No w0 w':=by
 refine C_o Tryz.func33 fun κ _ Je Jc hm=>?_
 refine au 17 ?_
 refine cd (fun hc0=>?_) fun hc0=>?_
 ·
  simp only [bB,dT] at hc0
  refine au 8 ?_
  exact ⟨LM Value.bool (LN fun h=>by omega).symm,hm.to⟩
 ·
  simp only [bD,dF] at hc0
  refine au 14 ?_
  refine Jg (ι:=Nat) rfl (ks:=[0,1]) (.cons rfl (.cons rfl .nil)) (fun k=>[(6,.int .i64 k),(5,.int .i64 (Pl.first s (xs.map CmdV.cm) k))]) (fun k w=>Mem w0 w No []∧k≤xs.length∧(0≤Pl.first s (xs.map CmdV.cm) k∧Pl.first s (xs.map CmdV.cm) k≤300*k)∧∀ (j:Nat) c,j<k→xs[j]?=some c→Pl.ccheck c.cm=0∧c.d.bs.length≤300∧Pl.Ji c.cm s≤300) (fun k=>xs.length-k) 0 (⟨hm,LL _,by simp [Pl.first],fun _ _ h=>absurd h (Nat.not_lt_zero _)⟩) ⟨rfl,(by simp [Pl.first]; rfl),trivial⟩ (fun k w hM=>?_)
  obtain ⟨hm,hk,hfk,hno⟩:=hM
  refine au 9 ?_
  refine cd (fun hc1=>?_) fun hc1=>?_
  ·
   simp only [dT] at hc1
   obtain ⟨c,hi⟩:∃ y_,xs[k]?=some y_:=⟨_,La (by omega)⟩
   obtain ⟨qb,qo,rfl⟩:=hx.atI Jf (by decide) hi
   have hokc:=hok c (Ld hi)
   have hb1:=hokc.2.2.2.2.le
   have hb2:=hokc.2.2.2.2.max
   have hcm:(xs.map CmdV.cm)[k]?=some c.cm:=by rw [Lt,hi]; rfl
   have hfn:=Pl.Yo s hcm
   have k5:c.cm.bs.length=c.d.bs.length:=rfl
   refine au 6 ?_
   by_cases hck:Pl.ccheck c.cm=0
   by_cases hdl:c.d.bs.length≤300
   rotate_left
   rotate_left
   ·
    refine au 4 ?_
    refine Ja rfl rfl (JU rfl ag60.h (hx.Jj hm.to).nt Jf hi) ?_
    refine cA rfl rfl rfl (r4_check c.cm c.d.p c.d.cap _ (by exact ⟨hokc.1,hokc.2.1,hokc.2.2.1,hokc.2.2.2.1⟩) (by omega)) hm fun w hm=>?_
    refine au 1 ?_
    refine Ja rfl rfl (JA (c:=true) (Jx rfl) (by simp [hck])) ?_
    refine au 33 ?_
    exact ⟨LM Value.bool (LN fun h=>by
     have h9:=h.2.2.1 c (Ld hi)
     first | exact hck h9.1 | exact hdl h9.2.1 | omega).symm,hm.to⟩
   ·
    have hcn:=Pl.Vc (s:=s) hck
    refine au 4 ?_
    refine Ja rfl rfl (JU rfl ag60.h (hx.Jj hm.to).nt Jf hi) ?_
    refine cA rfl rfl rfl (r4_check c.cm c.d.p c.d.cap _ (by exact ⟨hokc.1,hokc.2.1,hokc.2.2.1,hokc.2.2.2.1⟩) (by omega)) hm fun w hm=>?_
    refine au 1 ?_
    refine Ja rfl rfl (JA (c:=false) (Jx rfl) (by simp [hck])) ?_
    refine au 4 ?_
    refine Ja rfl rfl (Yr rfl sc22.h (hx.Jj hm.to).nt Jf hi rfl) ?_
    refine au 3 ?_
    refine Ja rfl rfl (JA (c:=false) (Jx rfl) (LN (by omega))) ?_
    refine au 3 ?_
    refine Ja rfl rfl (JU rfl ag60.h (hx.Jj hm.to).nt Jf hi) ?_
    refine au 1 ?_
    refine cA rfl rfl rfl (r17_count c.cm c.d.p c.d.cap s _ hck hs) hm fun w hm=>?_
    refine au 4 ?_
    refine cd (fun hc2=>?_) fun hc2=>?_
    ·
     simp only [dT] at hc2
     refine au 13 ?_
     exact ⟨LM Value.bool (LN fun h=>by
      have h9:=h.2.2.1 c (Ld hi)
      first | exact hck h9.1 | exact hdl h9.2.1 | omega).symm,hm.to⟩
    ·
     simp only [dF] at hc2
     refine au 7 ?_
     refine Ja rfl rfl (JU rfl ag60.h (hx.Jj hm.to).nt Jf hi) ?_
     refine au 1 ?_
     refine cA rfl rfl rfl (r17_count c.cm c.d.p c.d.cap s _ hck hs) hm fun w hm=>?_
     refine au 10 ?_
     refine next (k+1) (by omega) ⟨hm,by omega,by omega,fun j d hj hd=>?_⟩ ⟨nx k,by rw [hfn]; rfl,rfl,rfl,trivial⟩
     rcases L7 j k with h | h
     · exact hno j d h hd
     · obtain rfl:j=k:=by omega
       rw [hi] at hd; cases hd; exact ⟨hck,by omega,by omega⟩
   ·
    refine au 4 ?_
    refine Ja rfl rfl (JU rfl ag60.h (hx.Jj hm.to).nt Jf hi) ?_
    refine cA rfl rfl rfl (r4_check c.cm c.d.p c.d.cap _ (by exact ⟨hokc.1,hokc.2.1,hokc.2.2.1,hokc.2.2.2.1⟩) (by omega)) hm fun w hm=>?_
    refine au 1 ?_
    refine Ja rfl rfl (JA (c:=false) (Jx rfl) (by simp [hck])) ?_
    refine au 4 ?_
    refine Ja rfl rfl (Yr rfl sc22.h (hx.Jj hm.to).nt Jf hi rfl) ?_
    refine au 3 ?_
    refine Ja rfl rfl (JA (c:=true) (Jx rfl) (LQ (by omega))) ?_
    refine au 24 ?_
    exact ⟨LM Value.bool (LN fun h=>by
     have h9:=h.2.2.1 c (Ld hi)
     first | exact hck h9.1 | exact hdl h9.2.1 | omega).symm,hm.to⟩
  ·
   simp only [dF] at hc1
   obtain rfl:k=xs.length:=by omega
   have hall:∀ c∈xs,Pl.ccheck c.cm=0∧c.d.bs.length≤300∧Pl.Ji c.cm s≤300:=fun c hc=>by (obtain ⟨j,hj⟩:=List.getElem?_of_mem hc; exact hno j c (Le.1 hj).1 hj)
   refine au 14 ?_
   exact ⟨LM Value.bool (decide_eq_decide.2 ⟨fun h=>⟨by omega,by omega,hall,h⟩,fun h=>h.2.2.2⟩),hm.to⟩
theorem r24_small(oo nn:Int)(H:Nat→UInt8)(q:Option Addr)(cq:Nat)(cs:List CmdV)(bd:Int)(w0:World)(h1:Pl.I64 oo)(h2:Pl.I64 nn)(hb:Pl.I64 bd)(hq:Rd w0 q (cs.flatMap JM))(hok:∀ c∈cs,okC w0 c):C Tryz.prog 15 [.int .i64 bd,.agg ⟨dlV oo nn H q cs.length cq⟩] w0 fun v w'=>v=.bool (bif (decide ((cs.length:Int)>20)||decide (oo>300)||decide (nn>300)||!(cs.all (fun c=>decide (c.d.bs.length≤300))&&decide (cs.length≤40))||!Pl.vdB oo nn (cs.map CmdV.cm)||decide (bd>300)) then false else (Pl.valid 0 nn&&(decide (bd<1)||few18 bd cs)))∧Ext No w0 w':=by
 refine C_o Tryz.func15 fun κ _ Je Jc hm=>?_
 refine au 2 ?_
 refine bT hm fun m1 w hm=>?_
 refine au 21 ?_
 refine JK rfl rfl rfl (fun hc=>(Jm (s:=67) (vs:=dlV oo nn H _ cs.length cq) rfl ag26.h (hm.nt 0 rfl) rfl)) ?_
 refine J1 rfl rfl rfl (fun hc=>(J8 (gx hc rfl) QL)) go30 (fun hc=>(r5_few oo nn H q cq cs _ (hq.Jj hm.to) (by simp only [bD,dF] at hc; omega))) trivial fun w hE hh=>?_
 replace hm:=hm.ext hE
 refine au 3 ?_
 refine JK rfl rfl rfl (fun hc=>(Jm (s:=67) (vs:=dlV oo nn H _ cs.length cq) rfl ag26.h (hm.nt 0 rfl) rfl)) ?_
 refine J1 rfl rfl rfl (fun hc=>(J8 (gx hc rfl) QL)) go31 (fun hc=>(r5_valid oo nn H q cq cs _ h1 h2 (hq.Jj hm.to) (by simp only [bD,dF] at hc; omega) (fun c hc=>okC.mono (hok c hc) hm.to))) trivial fun w hE hh=>?_
 replace hm:=hm.ext hE
 refine au 8 ?_
 refine cd (fun hc0=>?_) fun hc0=>?_
 ·
  refine au 8 ?_
  exact ⟨by rw [show (decide ((cs.length:Int)>20)||decide (oo>300)||decide (nn>300)||!(cs.all (fun c=>decide (c.d.bs.length≤300))&&decide (cs.length≤40))||!Pl.vdB oo nn (cs.map CmdV.cm)||decide (bd>300))=true from hc0]; rfl,hm.to⟩
 ·
  have h20:cs.length≤20:=by
   have h9:=hc0
   simp only [bD,dF] at h9
   omega
  refine au 7 ?_
  refine cA rfl rfl rfl (r1_valid 0 nn _ (by simp only [Pl.I64]; omega) h2) hm fun w hm=>?_
  refine au 4 ?_
  refine YD rfl rfl rfl (fun hc=>(Jx rfl)) ?_
  refine YD rfl rfl rfl (fun hc=>(Jv rfl fo26_4.h)) ?_
  refine YD rfl rfl rfl (fun hc=>(Jh (gx hc rfl) sc24.h (hm.nt 0 rfl) rfl)) ?_
  refine a_callGG rfl rfl rfl (fun hc=>(J8 (gx hc rfl) (J8 (gx hc rfl) QL))) go33 (fun hc=>(r18_few bd q cq cs _ (hq.Jj hm.to) (fun c hc=>okC.mono (hok c hc) hm.to) (by omega) hb)) trivial fun w hE hh=>?_
  replace hm:=hm.ext hE
  refine JK rfl rfl rfl (fun hc=>(y_or (gx hc rfl) rfl (gvn hc rfl))) ?_
  refine au 6 ?_
  exact ⟨by rw [show (decide ((cs.length:Int)>20)||decide (oo>300)||decide (nn>300)||!(cs.all (fun c=>decide (c.d.bs.length≤300))&&decide (cs.length≤40))||!Pl.vdB oo nn (cs.map CmdV.cm)||decide (bd>300))=false from hc0]; rfl,hm.to⟩
theorem l24_right(oo nn:Int)(H:Nat→UInt8)(q:Option Addr)(cq:Nat)(cs:List CmdV)(r:Option Addr)(cr:Nat)(f:List UInt8)(sz bd mo:Int)(w0:World)(h1:Pl.I64 oo)(h2:Pl.I64 nn)(hs:Pl.I64 sz)(hb:Pl.I64 bd)(hq:Rd w0 q (cs.flatMap JM))(hok:∀ c∈cs,okC w0 c):C Tryz.prog 6 [.agg ⟨caV r f.length cr oo nn H q cs.length cq sz bd mo⟩] w0 fun v w'=>v=.int .i64 (bif (decide ((f.length:Int)>300)||!(bif (decide ((cs.length:Int)>20)||decide (oo>300)||decide (nn>300)||!(cs.all (fun c=>decide (c.d.bs.length≤300))&&decide (cs.length≤40))||!Pl.vdB oo nn (cs.map CmdV.cm)||decide (bd>300)) then false else (Pl.valid 0 nn&&(decide (bd<1)||few18 bd cs)))||!((cs.all (fun c=>decide (c.d.bs.length≤300))&&decide (cs.length≤40))&&Pl.vdB oo nn (cs.map CmdV.cm)&&decide (oo=f.length)&&decide (nn≤3000))||decide (bd<1)||decide (sz<1)||decide (sz>1000)||decide (mo<0)||decide (mo>100)) then 0 else 1)∧Ext No w0 w':=by
 refine C_o Tryz.func6 fun κ _ Je Jc hm=>?_
 refine au 2 ?_
 refine bT hm fun m1 w hm=>?_
 refine au 14 ?_
 refine JK rfl rfl rfl (fun hc=>(Jm (s:=67) (vs:=dlV oo nn H _ cs.length cq) (gx hc rfl) ag26.h (hm.nt 0 rfl) rfl)) ?_
 refine J1 rfl rfl rfl (fun hc=>(J8 (gx hc rfl) (J8 (gx hc rfl) QL))) go15 (fun hc=>(r24_small oo nn H q cq cs bd _ h1 h2 hb (hq.Jj hm.to) (fun c hc=>okC.mono (hok c hc) hm.to))) trivial fun w hE hh=>?_
 replace hm:=hm.ext hE
 refine au 6 ?_
 refine JK rfl rfl rfl (fun hc=>(Jm (s:=67) (vs:=dlV oo nn H _ cs.length cq) (gx hc rfl) ag26.h (hm.nt 0 rfl) rfl)) ?_
 refine J1 rfl rfl rfl (fun hc=>(J8 (gx hc rfl) (J8 (gx hc rfl) QL))) go16 (fun hc=>(r8_fits oo nn H q cq cs r cr f _ h1 h2 (hq.Jj hm.to) (by have:=sm20 hc; omega) (fun c hc=>okC.mono (hok c hc) hm.to))) trivial fun w hE hh=>?_
 replace hm:=hm.ext hE
 refine au 29 ?_
 refine cd (fun hc0=>?_) fun hc0=>?_
 ·
  refine au 8 ?_
  exact ⟨by rw [show (decide ((f.length:Int)>300)||!(bif (decide ((cs.length:Int)>20)||decide (oo>300)||decide (nn>300)||!(cs.all (fun c=>decide (c.d.bs.length≤300))&&decide (cs.length≤40))||!Pl.vdB oo nn (cs.map CmdV.cm)||decide (bd>300)) then false else (Pl.valid 0 nn&&(decide (bd<1)||few18 bd cs)))||!((cs.all (fun c=>decide (c.d.bs.length≤300))&&decide (cs.length≤40))&&Pl.vdB oo nn (cs.map CmdV.cm)&&decide (oo=f.length)&&decide (nn≤3000))||decide (bd<1)||decide (sz<1)||decide (sz>1000)||decide (mo<0)||decide (mo>100))=true from hc0]; rfl,hm.to⟩
 ·
  refine au 9 ?_
  exact ⟨by rw [show (decide ((f.length:Int)>300)||!(bif (decide ((cs.length:Int)>20)||decide (oo>300)||decide (nn>300)||!(cs.all (fun c=>decide (c.d.bs.length≤300))&&decide (cs.length≤40))||!Pl.vdB oo nn (cs.map CmdV.cm)||decide (bd>300)) then false else (Pl.valid 0 nn&&(decide (bd<1)||few18 bd cs)))||!((cs.all (fun c=>decide (c.d.bs.length≤300))&&decide (cs.length≤40))&&Pl.vdB oo nn (cs.map CmdV.cm)&&decide (oo=f.length)&&decide (nn≤3000))||decide (bd<1)||decide (sz<1)||decide (sz>1000)||decide (mo<0)||decide (mo>100))=false from hc0]; rfl,hm.to⟩
theorem upds_all{l vs:List Value}(h:l.length=vs.length):upds l 0 vs=vs:=by
 rw [QT vs l 0 (by omega),List.take_zero,L4,LV,← h,List.drop_length,Lq]
theorem Xu{w0 w:World}{X:Bs}{L:List (Nat×Blk)}{j:Nat}{e:TypeId}{l vs:List Value}(h:Mem w0 w X (Qr L j (.row e (upds l 0 vs))))(hl:l.length=vs.length):Mem w0 w X (Qr L j (.row e vs)):=by
 rw [upds_all hl] at h
 exact h
end Go.Proofs.YtaehgpeenaomcaaGreat
namespace Go.Cx
open Go Go.Cx Go.Proofs.YtaehgpeenaomcaaGreat
def Q1(W:World)(c:CmdV):Prop:=Pl.I64 c.k∧Pl.I64 c.to∧Pl.I64 c.fr∧Pl.I64 c.ln∧c.d.okN W
theorem Q1.mono{w w':World}{c:CmdV}(h:Q1 w c)(hx:Ext No w w'):Q1 w' c:=⟨h.1,h.2.1,h.2.2.1,h.2.2.2.1,h.2.2.2.2.ext hx⟩
theorem Q1.cm{W:World}{c:CmdV}(h:Q1 W c):Pl.okCm c.cm:=⟨h.1,h.2.1,h.2.2.1,h.2.2.2.1⟩
end Go.Cx
namespace Go.Proofs.YtaehgpeenaomcaaGreat
open Go Go.Cx
theorem okC_n{w:World}{c:CmdV}(h:okC w c):Q1 w c:=⟨h.1,h.2.1,h.2.2.1,h.2.2.2.1,h.2.2.2.2.n⟩
theorem Ya{w0 w:World}{X:Bs}{L B:List (Nat×Blk)}{u8:Nat}{y:CmdV}{o n:Int}(hm:Mem w0 w X L)(h:Held B u8 y.d)(hs:∀ e,e∈B→e∈L)(h1:Pl.single o n y.cm=0):Q1 w y:=by
 have hk:=Pl.Jl (Pl.Jw h1).1
 have e1:y.cm.k=y.k:=rfl
 have e2:y.cm.to=y.to:=rfl
 have e3:y.cm.fr=y.fr:=rfl
 have e4:y.cm.ln=y.ln:=rfl
 refine ⟨?_,?_,?_,?_,h.okN hm hs⟩ <;> simp only [Pl.I64] <;> omega
theorem V5{o n:Int}{ds:List CmdV}(hv:Pl.VD o n (ds.map CmdV.cm))(hn:n≤1000000)(y:CmdV)(hy:y∈ds):y.d.bs.length≤140737488355328:=by
 obtain ⟨h1,h2,h3⟩:=Pl.Jw (hv.one y.cm (Ln.2 ⟨y,hy,rfl⟩))
 have hk:=Pl.Jl h1
 have e5:y.cm.bs=y.d.bs:=rfl
 rcases hk.1 with h | h
 · rw [← e5,h.2.2.1]; simp
 · rw [← e5]; omega
theorem d_inRange(n:Int)(w0:World)(hn:Pl.I64 n):C Tryz.prog 90 [.int .i64 n] w0 fun v w'=>v=.bool (Pl.okLen n)∧Ext No w0 w':=by
 refine C_o Tryz.func90 fun κ _ Je Jc hm=>?_
 refine au 9 ?_
 refine cA rfl rfl rfl (Qw 0 n _ (by simp only [Pl.I64]; omega) hn) hm fun w hm=>?_
 refine au 5 ?_
 exact ⟨rfl,hm.to⟩
theorem d_with(oo nn:Int)(H:Nat→UInt8)(q0:Option Addr)(n0 c0:Nat)(q:Option Addr)(cq:Nat)(cs:List CmdV)(w0:World)(hq:Rd w0 q (cs.flatMap JM))(hok:∀ c∈cs,Q1 w0 c)(hl:cs.length≤1000000)(hbl:∀ c∈cs,c.d.bs.length≤140737488355328):C Tryz.prog 20 [.agg ⟨dlV oo nn H q0 n0 c0⟩,.slice q cs.length cq] w0 fun v w'=>∃ (ys:List CmdV) (p:Option Addr) (n cap g:Nat) (b:Blk) (B:List (Nat×Blk)),v=.agg ⟨dlV oo nn H p n cap⟩∧Acc 60 5 p n cap (ys.flatMap JM) g b∧ys.map CmdV.cm=cs.map CmdV.cm∧(∀ y∈ys,Held B 5 y.d)∧Mem w0 w' No ((g,b)::B):=by
 refine C_o Tryz.func20 fun κ _ Je Jc hm=>?_
 refine au 2 ?_
 refine bT hm fun m1 w hm=>?_
 refine aT hm fun m2 w hm=>?_
 refine au 5 ?_
 refine st hm 1 fun w hm=>?_
 replace hm:=hm.JP
 have ha_o:=Acc.nil 60 5 none 0
 refine au 11 ?_
 refine Jg (ι:=Nat×Ow×List CmdV×List (Nat×Blk)) rfl (ks:=[2,4,8,9]) (.cons rfl (.cons rfl (.cons rfl (.cons rfl .nil)))) (fun x=>[(10,.int .i64 x.1)]) (fun x w=>Mem w0 w No ((x.2.1.g,x.2.1.b)::(m2,.row 26 (dlV 0 0 (fun _=>0) none 0 0))::(m1,.row 26 (dlV oo nn H x.2.1.p x.2.1.n x.2.1.cap))::x.2.2.2)∧Acc 60 5 x.2.1.p x.2.1.n x.2.1.cap (x.2.2.1.flatMap JM) x.2.1.g x.2.1.b∧x.2.2.1.map CmdV.cm=(cs.take x.1).map CmdV.cm∧(∀ y∈x.2.2.1,Held x.2.2.2 5 y.d)∧x.1≤cs.length∧x.2.1.n=x.1) (fun x=>cs.length-x.1) (0,⟨none,0,0,0,.gap⟩,[],[]) (⟨(hm.pick [0,1,2] rfl),ha_o,rfl,by simp,LL _,rfl⟩) ⟨rfl,trivial⟩ (fun x w hM=>?_)
 obtain ⟨hm,ha_o,hxm,hH,hk,hn⟩:=hM
 refine au 6 ?_
 refine cd (fun hc0=>?_) fun hc0=>?_
 ·
  simp only [dT] at hc0
  obtain ⟨c,hi⟩:∃ y_,cs[x.1]?=some y_:=⟨_,La (by omega)⟩
  obtain ⟨qb,qo,rfl⟩:=hq.atI Jf (by decide) hi
  have hokc:=hok c (Ld hi)
  have hbc:=hbl c (Ld hi)
  refine au 7 ?_
  refine Ja rfl rfl (JU rfl ag60.h (hq.Jj hm.to).nt Jf hi) ?_
  refine aT hm fun m3 w hm=>?_
  refine st hm 0 fun w hm=>?_
  refine au 2 ?_
  refine dw [0,3,6,10,13,2,16,18,22] hm fun w hw hm0 hh hm=>?_
  refine au 3 ?_
  refine ca rfl rfl rfl (c_clone c.cm c.d.p c.d.cap _ (hokc.2.2.2.2.rd.Jj hm.to) hbc) fun v w hR=>?_
  obtain ⟨p_s,n_s,cap_s,g_s,b_s,rfl,ha_s,hmc⟩:=hR
  refine ⟨hh.ext hmc.to,?_⟩
  replace hh:=hh.ext hmc.to
  replace hm:=hm.Jt hmc
  obtain rfl:=ha_s.J0
  refine Jb (l:=[_,_,_,_,_]) rfl rfl sl24.h z60.h rfl rfl rfl rfl rfl rfl rfl hm hh fun m4 w hg_m4 hm hh=>?_
  refine au 1 ?_
  refine Jy rfl rfl rfl rfl rfl rfl sl24.h sl24.h z60.h rfl rfl (Rd.JL (hm.get (k:=0) rfl)) rfl ha_o hm 3 rfl (by omega) (by omega) fun p_o cap_o g_o b_o w ha_o hm=>?_
  replace hm:=hm.stow 1 rfl
  refine au 1 ?_
  refine st hm 4 fun w hm=>?_
  refine au 7 ?_
  refine next (x.1+1,⟨p_o,_,cap_o,g_o,b_o⟩,x.2.2.1++[mkC c.cm p_s cap_s],x.2.2.2++[(g_s,b_s)]) (by simp only; omega) ⟨(hm.Jp [2,3,4] 5 rfl),ha_o.to ?_,?_,heldAdd hH (ha_s.held (by simp)),by simp only; omega,by simp only; omega⟩ ⟨nx x.1,rfl,rfl,rfl,rfl,trivial⟩
  · simp only [Lh,Lk,LY,Lq]; rfl
  · rw [Lx,hxm,LC,hi]; simp; rfl
 ·
  simp only [dF] at hc0
  have hke:x.1=cs.length:=by omega
  rw [hke,Lv] at hxm
  refine au 7 ?_
  refine Ja rfl rfl (Jm (s:=67) (vs:=dlV oo nn H _ _ _) rfl ag26.h (hm.nt 2 rfl) rfl) ?_
  refine st hm 1 fun w hm=>?_
  replace hm:=Xu hm rfl
  refine au 3 ?_
  refine toR (fin Je rfl (.cell rfl (Ju (vs:=dlV oo nn H _ _ _) ag26.h (hm.get (k:=1) rfl) rfl) .nil) .one ?_)
  exact ⟨x.2.2.1,_,_,_,_,_,x.2.2.2,rfl,ha_o,hxm,hH,(hm.Jp [0] 3 rfl)⟩
theorem csrc_i64{c:Pl.Cm}(h:Pl.ccheck c=0):Pl.I64 ((Pl.csrc c).1+(Pl.csrc c).2):=by
 have hk:=Pl.Jl h
 unfold Pl.csrc
 simp only [Pl.I64]
 split <;> simp only <;> omega
def bqP(r:Option Addr)(cr:Nat)(p:Option Addr)(c:Pl.Cm):Option Addr:=if c.k=1 then slp r cr c.fr.toNat 1 else p
def bqC(cr cap:Nat)(c:Pl.Cm):Nat:=if c.k=1 then cr-c.fr.toNat else cap
theorem bq_rd{w:World}{r p:Option Addr}{cr:Nat}{f:List UInt8}{c:Pl.Cm}(hf:Rd w r (f.flatMap Jk))(hfl:f.length≤cr)(hp:Rd w p (c.bs.flatMap Jk)):Rd w (bqP r cr p c) ((Pl.cbs f c).flatMap Jk):=by
 unfold bqP Pl.cbs
 split
 · exact hf.sub hfl
 · exact hp
theorem bq_ap{r p:Option Addr}{cr:Nat}{f:List UInt8}{c:Pl.Cm}{N:Bs}(hr:f.flatMap Jk≠[]→∀ ad,r=some ad→¬ N ad.block)(hp:c.bs.flatMap Jk≠[]→∀ ad,p=some ad→¬ N ad.block):(Pl.cbs f c).flatMap Jk≠[]→∀ ad,bqP r cr p c=some ad→¬ N ad.block:=by
 unfold bqP Pl.cbs
 split
 · intro hne ad e
   obtain ⟨a2,e2,e3⟩:=slp_block e
   rw [← e3]
   refine hr (fun h0=>hne ?_) a2 e2
   have:f=[]:=by
    cases f with
    | nil=>rfl
    | cons x t=>exact absurd h0 (by simp [Jk])
   rw [this]; simp
 · exact hp
theorem d_single(oo nn:Int)(H:Nat→UInt8)(q:Option Addr)(n0 cq:Nat)(c:Pl.Cm)(p:Option Addr)(cap:Nat)(w0:World)(hk:Pl.okCm c)(hl:c.bs.length≤9223372036854775807):C Tryz.prog 91 [.agg ⟨dlV oo nn H q n0 cq⟩,.agg ⟨cmV c p c.bs.length cap⟩] w0 fun v w'=>v=.int .i64 (Pl.single oo nn c)∧Ext No w0 w':=by
 refine C_o Tryz.func91 fun κ _ Je Jc hm=>?_
 refine au 2 ?_
 refine bT hm fun m1 w hm=>?_
 refine bT hm fun m2 w hm=>?_
 refine au 7 ?_
 refine cA rfl rfl rfl (c_check c p cap _ hk hl) hm fun w hm=>?_
 refine au 9 ?_
 refine cd (fun hc0=>?_) fun hc0=>?_
 ·
  simp only [dT] at hc0
  refine au 9 ?_
  exact ⟨by unfold Pl.single; rw [LI (by simpa using hc0)],hm.to⟩
 ·
  simp only [dF,ne_eq,Decidable.not_not] at hc0
  have hck:=Pl.Jl hc0
  have hcs:=csrc_i64 hc0
  refine au 6 ?_
  refine cA rfl rfl rfl (VI _ _ _ _) hm fun w hm=>?_
  refine au 3 ?_
  refine aT hm fun m3 w hm=>?_
  refine st hm 0 fun w hm=>?_
  refine au 4 ?_
  refine dw [0,3,6,12,15,10,18,21] hm fun w hw hm0 hh hm=>?_
  refine Ja rfl rfl (Jx rfl) ?_
  refine Ja rfl rfl (Jx rfl) ?_
  refine JK rfl rfl rfl (fun hc=>(Jm (s:=2) (vs:=[_,_]) rfl ag32.h (hm0.nd 0 rfl id) rfl)) ?_
  refine JK rfl rfl rfl (fun hc=>(Jv rfl fo26_0.h)) ?_
  refine JK rfl rfl rfl (fun hc=>(Jh (gx hc rfl) sc3.h (hm0.nd 2 rfl id) rfl)) ?_
  refine J1 rfl rfl rfl (fun hc=>(J8 (gx hc rfl) QL)) go36 (fun hc=>(QC (Pl.csrc c).1 (Pl.csrc c).2 _ hcs)) hh fun w hE hh=>?_
  replace hm:=hm.ext hE
  refine au 4 ?_
  refine cd (fun hc1=>?_) fun hc1=>?_
  ·
   refine au 8 ?_
   exact ⟨by unfold Pl.single; rw [LH (by simpa using hc0),LI (by simp only [bA,dT] at hc1; obtain ⟨h1,h2⟩:=hc1; simp only [Pl.csrc,LI h1] at h2; exact ⟨h1,by omega⟩)],hm.to⟩
  ·
   refine au 4 ?_
   refine dw [0,9,12,4,7,15] hm fun w hw hm0 hh hm=>?_
   refine au 3 ?_
   refine cB rfl rfl rfl (Vd _ _ _ _) hm hh fun w hm hh=>?_
   refine cB rfl rfl rfl (QC c.to (Pl.clen c) _ (by simp only [Pl.I64]; omega)) hm hh fun w hm hh=>?_
   refine au 3 ?_
   refine cd (fun hc2=>?_) fun hc2=>?_
   ·
    refine au 8 ?_
    exact ⟨by unfold Pl.single; rw [LH (by simpa using hc0),LH (fun h=>by obtain ⟨h1,h2⟩:=h; simp [Pl.csrc,h1] at hc1; omega),LI (by simpa using hc2)],hm.to⟩
   ·
    refine au 9 ?_
    exact ⟨by unfold Pl.single; rw [LH (by simpa using hc0),LH (fun h=>by obtain ⟨h1,h2⟩:=h; simp [Pl.csrc,h1] at hc1; omega),LH (by simpa using hc2)],hm.to⟩
theorem p_bytesOf(r:Option Addr)(cr:Nat)(f:List UInt8)(c:Pl.Cm)(p:Option Addr)(cap:Nat)(w0:World)(hc:Pl.ccheck c=0)(hs:c.k=1→c.fr+c.ln≤f.length)(hf:Rd w0 r (f.flatMap Jk))(hfl:f.length≤cr)(hfs:cr≠0→∀ ad,r=some ad→ad.spot=none)(hp:Rd w0 p (c.bs.flatMap Jk))(hpl:c.bs.length≤cap)(hps:cap≠0→∀ ad,p=some ad→ad.spot=none):C Tryz.prog 64 [.slice r f.length cr,.agg ⟨cmV c p c.bs.length cap⟩] w0 fun v w'=>v=.slice (bqP r cr p c) (Pl.cbs f c).length (bqC cr cap c)∧Ext No w0 w':=by
 have hck:=Pl.Jl hc
 refine C_o Tryz.func64 fun κ _ Je Jc hm=>?_
 refine au 2 ?_
 refine bT hm fun m1 w hm=>?_
 refine au 7 ?_
 refine cA rfl rfl rfl (VI _ _ _ _) hm fun w hm=>?_
 refine au 3 ?_
 refine aT hm fun m2 w hm=>?_
 refine st hm 0 fun w hm=>?_
 refine au 8 ?_
 refine cd (fun hc0=>?_) fun hc0=>?_
 ·
  simp only [dT] at hc0
  have hs1:=hs hc0
  have hsr:Pl.csrc c=(c.fr,c.ln):=by unfold Pl.csrc; rw [LI hc0]
  have hb:Pl.cbs f c=(f.drop c.fr.toNat).take c.ln.toNat:=by unfold Pl.cbs; rw [LI hc0]
  have hbl:(Pl.cbs f c).length=c.ln.toNat:=by rw [hb,Lg,Lm]; omega
  rw [hsr] at hm
  refine au 10 ?_
  refine Ja rfl rfl (JE (ln:=c.fr.toNat) (hn:=(c.fr.toNat+c.ln.toNat)) rfl sl22.h ⟨_,LM (fun x=>some (Value.int .i64 x)) (by omega)⟩ ⟨_,LM (fun x=>some (Value.int .i64 x)) (by omega)⟩ (by omega) (by omega) (fun h=>hfs (by omega))) ?_
  refine au 6 ?_
  exact ⟨by unfold bqP bqC; rw [LI hc0,LI hc0,hbl]; simp only [Kk],hm.to⟩
 ·
  simp only [dF] at hc0
  have hb:Pl.cbs f c=c.bs:=by unfold Pl.cbs; rw [LH hc0]
  refine au 11 ?_
  exact ⟨by unfold bqP bqC; rw [LH hc0,LH hc0,hb],hm.to⟩
end Go.Proofs.YtaehgpeenaomcaaGreat
namespace Go.Pl
open Go Go.Cx Go.Proofs.YtaehgpeenaomcaaGreat
def cmpI(a b:Int):Int:=if a<b then -1 else if b<a then 1 else 0
end Go.Pl
namespace Go.Proofs.YtaehgpeenaomcaaGreat
open Go Go.Cx
theorem cmpI_neg{a b:Int}:Pl.cmpI a b<0↔a<b:=by
 unfold Pl.cmpI
 split
 · simp; assumption
 · split <;> simp <;> omega
theorem ins_i(g cap:Nat)(xs:List Int)(lo hi:Nat)(fi:FuncId)(l2:List Value)(key:Int→Int)(w0:World)(hr:w0.heap[g]?=some (Blk.row 3 (xs.flatMap encI)).Jd)(hle:lo≤hi∧hi≤xs.length)(hl:xs.length≤4611686018427387903)(hg:JH Tryz.prog fi=true)(hf:∀ x y w1,x∈xs→y∈xs→Ext (fun k=>k=g) w0 w1→C Tryz.prog fi (.int .i64 x::.int .i64 y::l2) w1 fun v w2=>v=.int .i64 (Pl.cmpI (key x) (key y))∧Ext No w1 w2):C Tryz.prog 192 [.slice (some ⟨g,0,none⟩) xs.length cap,.int .i64 (lo:Int),.int .i64 (hi:Int),.func (.func fi) #[] ⟨l2⟩] w0 fun v w'=>v=.tuple ⟨[]⟩∧∃ ys:List Int,ys.Perm xs∧Pl.Srt key ys lo hi∧(∀ i,i<lo∨hi≤i→ys[i]?=xs[i]?)∧Mem w0 w' (fun k=>k=g) [(g,.row 3 (ys.flatMap encI))]:=by
 refine Vk Tryz.func192 rfl rfl rfl fun κ _ Je Jc=>?_
 have hm:=Mem.Vq hr
 refine au 8 ?_
 refine Jg (ι:=Nat×List Int) rfl (ks:=[0,1,2,3]) (.cons rfl (.cons rfl (.cons rfl (.cons rfl .nil)))) (fun x=>[(8,.int .i64 (x.1:Int))]) (fun x w=>Mem w0 w (fun k=>k=g) [(g,.row 3 (x.2.flatMap encI))]∧x.2.Perm xs∧lo+1≤x.1∧(x.1≤hi∨x.1=lo+1)∧Pl.Srt key x.2 lo x.1∧(∀ i,i<lo∨hi≤i→x.2[i]?=xs[i]?)) (fun x=>hi-x.1) (lo+1,xs) (⟨hm,List.Perm.refl _,LP _,.inr rfl,Pl.Srt.one _ _ _,fun _ _=>rfl⟩) ⟨(LM (fun x=>some (Value.int .i64 x)) (by omega)),trivial⟩ (fun x w hM=>?_)
 obtain ⟨hm,hxp,hk0,hk,hsr,hxo⟩:=hM
 refine au 8 ?_
 refine cd (fun hc0=>?_) fun hc0=>?_
 ·
  simp only [dT] at hc0
  refine au 11 ?_
  refine Jg (ι:=Nat×List Int) rfl (ks:=[0,1,2,3,8]) (.cons rfl (.cons rfl (.cons rfl (.cons rfl (.cons rfl .nil))))) (fun y=>[(9,.int .i64 (y.1:Int))]) (fun y w=>Mem w0 w (fun k=>k=g) [(g,.row 3 (y.2.flatMap encI))]∧y.2.Perm xs∧lo≤y.1∧y.1≤x.1∧Pl.Snk key y.2 lo x.1 y.1∧(∀ i,i<lo∨hi≤i→y.2[i]?=xs[i]?)) (fun y=>y.1) (x.1,x.2) (⟨hm,hxp,by simp only; omega,LP _,hsr.snk,hxo⟩) ⟨rfl,trivial⟩ (fun y w hM=>?_)
  obtain ⟨hm,hyp,hy0,hy1,hsk,hyo⟩:=hM
  refine au 2 ?_
  have hyl:=hyp.length_eq
  by_cases hj:lo<y.1
  ·
   obtain ⟨j,hj1⟩:∃ j,y.1=j+1:=⟨y.1-1,by omega⟩
   have hje:((y.1:Int)-1).toNat=j:=by omega
   obtain ⟨v,hv⟩:∃ y_,y.2[y.1]?=some y_:=⟨_,La (by omega)⟩
   obtain ⟨u,hu⟩:∃ y_,y.2[((y.1:Int)-1).toNat]?=some y_:=⟨_,La (by omega)⟩
   have hvm:v∈xs:=hyp.subset (Ld hv)
   have hum:u∈xs:=hyp.subset (Ld hu)
   have hu':y.2[j]?=some u:=by rw [← hje]; exact hu
   have hv':y.2[j+1]?=some v:=by rw [← hj1]; exact hv
   refine dw [0,3,6,9,12,15,18,21,24,27,30,33,36,39,2,43,45,48] hm fun w hw hm0 hh hm=>?_
   refine au 2 ?_
   refine Ja rfl rfl (JA (c:=true) (XE rfl rfl) (LQ (by omega))) ?_
   refine au 5 ?_
   refine Ja rfl rfl (J3 rfl sc3.h (Rd.JL (hm0.get (k:=0) rfl)).nd Jq hv rfl) ?_
   refine au 4 ?_
   refine Ja rfl rfl (J3 rfl sc3.h (Rd.JL (hm0.get (k:=0) rfl)).nd Jq hu rfl) ?_
   refine au 1 ?_
   refine Qf rfl rfl rfl rfl hg (hf v u _ hvm hum hm.to) fun v w hR=>?_
   obtain ⟨rfl,hE⟩:=hR
   refine ⟨trivial,?_⟩
   replace hm:=hm.ext hE
   refine au 4 ?_
   refine cd (fun hc1=>?_) fun hc1=>?_
   ·
    simp only [dT] at hc1
    have hlt:key v<key u:=cmpI_neg.1 hc1
    refine au 4 ?_
    refine JS (.pure 0 (.pure 1 (.pure 2 (.pure 3 (.pure 4 (.pure 5 (.pure 6 (.pure 7 (.pure 8 (.pure 10 (.pure 11 (.pure 12 (.act2 9 (.act 13 (.pure 14 (.act 15 (.pure 16 (.act 17 .done))))) 13 (.act 9 (.pure 14 (.act 15 (.pure 16 (.act 17 .done)))))))))))))))))) (fun j=>j=g) mix (by kernel_rfl) hm fun w hw hm0 hh=>?_
    have hm:=hm0
    refine au 12 ?_
    refine QN ?_ ?_
    ·
     refine a_pure rfl rfl rfl (Jh (l:=y.2.flatMap encI) rfl sc3.h (hm.nt 0 rfl) (nth_encI hu)) hh ?_
     refine a_pure rfl rfl rfl (Jh (l:=y.2.flatMap encI) rfl sc3.h (hm.nt 0 rfl) (nth_encI hv)) hh ?_
     refine au 1 ?_
     refine QO rfl rfl rfl rfl sz3 rfl hm 0 rfl (Nat.ble_eq_true_of_le (by simp only [lenI,List.length_set,Li,LA]; omega)) hh (.inr rfl) fun w hm hh=>?_
     rw [XV (by first | omega | (simp only [List.length_set]; omega)),LD] at hm
     refine au 1 ?_
     refine QO rfl rfl rfl rfl sz3 rfl hm 0 rfl (Nat.ble_eq_true_of_le (by simp only [lenI,List.length_set,Li,LA]; omega)) hh (.inr rfl) fun w hm hh=>?_
     rw [XV (by first | omega | (simp only [List.length_set]; omega)),hje] at hm
     refine au 8 ?_
     refine next (j,Pl.swp y.2 j u v) (by simp only; omega) ⟨by unfold Pl.swp; rw [hj1] at hm; exact (hm.pick [0] rfl),(Pl.swp_perm hu' hv').trans hyp,by simp only; omega,by simp only; omega,Pl.Snk.step (by rw [← hj1]; exact hsk) (by omega) (by omega) hu' hv' hlt,fun i h9=>by rw [Pl.swp_get hu' hv',LH (by omega),LH (by omega)]; exact hyo i h9⟩ ⟨LM (fun x=>some (Value.int .i64 x)) (by simp only; omega),rfl,rfl,rfl,rfl,rfl,trivial⟩
    ·
     refine a_pure rfl rfl rfl (Jh (l:=y.2.flatMap encI) rfl sc3.h (hm.nt 0 rfl) (nth_encI hv)) hh ?_
     refine a_pure rfl rfl rfl (Jh (l:=y.2.flatMap encI) rfl sc3.h (hm.nt 0 rfl) (nth_encI hu)) hh ?_
     refine au 1 ?_
     refine QO rfl rfl rfl rfl sz3 rfl hm 0 rfl (Nat.ble_eq_true_of_le (by simp only [lenI,List.length_set,Li,LA]; omega)) hh (.inr rfl) fun w hm hh=>?_
     rw [XV (by first | omega | (simp only [List.length_set]; omega)),LD] at hm
     refine au 1 ?_
     refine QO rfl rfl rfl rfl sz3 rfl hm 0 rfl (Nat.ble_eq_true_of_le (by simp only [lenI,List.length_set,Li,LA]; omega)) hh (.inr rfl) fun w hm hh=>?_
     rw [XV (by first | omega | (simp only [List.length_set]; omega)),hje] at hm
     refine au 8 ?_
     refine next (j,Pl.swp y.2 j u v) (by simp only; omega) ⟨by unfold Pl.swp; rw [hj1] at hm; exact (hm.pick [0] rfl),(Pl.swp_perm hu' hv').trans hyp,by simp only; omega,by simp only; omega,Pl.Snk.step (by rw [← hj1]; exact hsk) (by omega) (by omega) hu' hv' hlt,fun i h9=>by rw [Pl.swp_get hu' hv',LH (by omega),LH (by omega)]; exact hyo i h9⟩ ⟨LM (fun x=>some (Value.int .i64 x)) (by simp only; omega),rfl,rfl,rfl,rfl,rfl,trivial⟩
   ·
    simp only [dF] at hc1
    have hge:key u≤key v:=by
     have h9:¬ key v<key u:=fun h=>hc1 (cmpI_neg.2 h)
     omega
    refine au 11 ?_
    have hs9:Pl.Srt key y.2 lo (x.1+1):=by
     first
     | exact Pl.Snk.srt (by rw [← hj1]; exact hsk) (by omega) hu' hv' hge
     | (have h8:=hsk; rw [show y.1=lo by omega] at h8; exact h8.srt0)
    refine next (x.1+1,y.2) (by simp only; omega) ⟨(hm.pick [0] rfl),hyp,by simp only; omega,by simp only; omega,hs9,hyo⟩ ⟨nx x.1,rfl,rfl,rfl,rfl,trivial⟩
  ·
   refine dw [0,3,6,9,12,15,18,21,24,27,30,33,36,39,2,43,45,48] hm fun w hw hm0 hh hm=>?_
   refine au 2 ?_
   refine Ja rfl rfl (JA (c:=false) (XE rfl rfl) (LN (by omega))) ?_
   refine au 29 ?_
   have hs9:Pl.Srt key y.2 lo (x.1+1):=by
    first
    | exact Pl.Snk.srt (by rw [← hj1]; exact hsk) (by omega) hu' hv' hge
    | (have h8:=hsk; rw [show y.1=lo by omega] at h8; exact h8.srt0)
   refine next (x.1+1,y.2) (by simp only; omega) ⟨(hm.pick [0] rfl),hyp,by simp only; omega,by simp only; omega,hs9,hyo⟩ ⟨nx x.1,rfl,rfl,rfl,rfl,trivial⟩
 ·
  simp only [dF] at hc0
  refine au 4 ?_
  refine toN (fin Jc rfl .nil .nil ?_)
  exact ⟨rfl,x.2,hxp,fun a b p q h1 h2 h3=>hsr a b p q h1 h2 (by omega),hxo,hm⟩
theorem c_nan(x:Int)(w0:World):C Tryz.prog 104 [.int .i64 x] w0 fun v w'=>v=.bool false∧Ext No w0 w':=by
 refine C_o Tryz.func104 fun κ _ Je Jc hm=>?_
 refine au 15 ?_
 exact ⟨by simp,hm.to⟩
theorem c_cmp(x y:Int)(w0:World):C Tryz.prog 71 [.int .i64 x,.int .i64 y] w0 fun v w'=>v=.int .i64 (Pl.cmpI x y)∧Ext No w0 w':=by
 refine C_o Tryz.func71 fun κ _ Je Jc hm=>?_
 refine au 8 ?_
 refine cA rfl rfl rfl (c_nan x _) hm fun w hm=>?_
 refine au 6 ?_
 refine cA rfl rfl rfl (c_nan y _) hm fun w hm=>?_
 refine au 29 ?_
 refine cd (fun hc3=>?_) fun hc3=>?_
 ·
  simp only [dT] at hc3
  refine au 8 ?_
  exact ⟨by unfold Pl.cmpI; first | rw [LI hc3] | rw [LH hc3,LI (by omega)] | rw [LH hc3,LH (by omega)],hm.to⟩
 ·
  simp only [dF] at hc3
  refine au 10 ?_
  refine cd (fun hc4=>?_) fun hc4=>?_
  ·
   simp only [dT] at hc4
   refine au 8 ?_
   exact ⟨by unfold Pl.cmpI; first | rw [LI hc3] | rw [LH hc3,LI (by omega)] | rw [LH hc3,LH (by omega)],hm.to⟩
  ·
   simp only [dF] at hc4
   refine au 9 ?_
   exact ⟨by unfold Pl.cmpI; first | rw [LI hc3] | rw [LH hc3,LI (by omega)] | rw [LH hc3,LH (by omega)],hm.to⟩
theorem stb_i(g cap:Nat)(xs:List Int)(fi:FuncId)(l2:List Value)(key:Int→Int)(w0:World)(hr:w0.heap[g]?=some (Blk.row 3 (xs.flatMap encI)).Jd)(hl:xs.length≤20)(hg:JH Tryz.prog fi=true)(hf:∀ x y w1,x∈xs→y∈xs→Ext (fun k=>k=g) w0 w1→C Tryz.prog fi (.int .i64 x::.int .i64 y::l2) w1 fun v w2=>v=.int .i64 (Pl.cmpI (key x) (key y))∧Ext No w1 w2):C Tryz.prog 154 [.slice (some ⟨g,0,none⟩) xs.length cap,.int .i64 (xs.length:Int),.func (.func fi) #[] ⟨l2⟩] w0 fun v w'=>v=.tuple ⟨[]⟩∧∃ ys:List Int,ys.Perm xs∧Pl.Srt key ys 0 xs.length∧Mem w0 w' (fun k=>k=g) [(g,.row 3 (ys.flatMap encI))]:=by
 refine Vk Tryz.func154 rfl rfl rfl fun κ _ Je Jc=>?_
 have hm:=Mem.Vq hr
 refine au 14 ?_
 refine Jg (ι:=Nat×List Int) rfl (ks:=[0,1,2,6]) (.cons rfl (.cons rfl (.cons rfl (.cons rfl .nil)))) (fun x=>[(7,.int .i64 (20*(x.1:Int))),(8,.int .i64 (20*(x.1:Int)+20))]) (fun x w=>Mem w0 w (fun k=>k=g) [(g,.row 3 (x.2.flatMap encI))]∧x.2.Perm xs∧(x.1=0∨x.1=1∧xs.length=20∧Pl.Srt key x.2 0 20)) (fun x=>1-x.1) (0,xs) (⟨hm,List.Perm.refl _,.inl rfl⟩) ⟨rfl,rfl,trivial⟩ (fun x w hM=>?_)
 obtain ⟨hm,hxp,hk⟩:=hM
 refine au 8 ?_
 refine cd (fun hc0=>?_) fun hc0=>?_
 ·
  simp only [dT] at hc0
  have hk0:x.1=0:=by omega
  refine au 9 ?_
  refine cT rfl rfl rfl (C.eqv (ins_i g cap x.2 (20*x.1) (20*x.1+20) fi l2 key _ (hm.get (k:=0) rfl) (by rw [(hxp).length_eq]; omega) (by rw [(hxp).length_eq]; omega) hg (fun a b w9 ha hb hx=>hf a b w9 ((hxp).subset ha) ((hxp).subset hb) (hm.to.trans hx))) (by rw [(hxp).length_eq]; try rfl)) fun v w hR=>?_
  obtain ⟨rfl,zs,hzp,hzs,hzo,hmc⟩:=hR
  replace hm:=hm.Qv 0 rfl hmc
  refine au 15 ?_
  refine next (1,zs) (by simp only; omega) ⟨(hm.pick [0] rfl),hzp.trans hxp,.inr ⟨rfl,by omega,fun a b p q h1 h2 h3=>hzs a b p q (by omega) h2 (by omega)⟩⟩ ⟨LM (fun x=>some (Value.int .i64 x)) (by simp only; omega),LM (fun x=>some (Value.int .i64 x)) (by simp only; omega),rfl,rfl,rfl,rfl,trivial⟩
 ·
  simp only [dF] at hc0
  refine au 11 ?_
  refine cT rfl rfl rfl (C.eqv (ins_i g cap x.2 (20*x.1) xs.length fi l2 key _ (hm.get (k:=0) rfl) (by rw [(hxp).length_eq]; omega) (by rw [(hxp).length_eq]; omega) hg (fun a b w9 ha hb hx=>hf a b w9 ((hxp).subset ha) ((hxp).subset hb) (hm.to.trans hx))) (by rw [(hxp).length_eq]; try rfl)) fun v w hR=>?_
  obtain ⟨rfl,zs,hzp,hzs,hzo,hmc⟩:=hR
  replace hm:=hm.Qv 0 rfl hmc
  refine au 3 ?_
  refine Jg (ι:=Unit) rfl (ks:=[0,1,2]) (.cons rfl (.cons rfl (.cons rfl .nil))) (fun u=>[(6,.int .i64 20)]) (fun u w=>Mem w0 w (fun k=>k=g) [(g,.row 3 (zs.flatMap encI))]∧True) (fun u=>0) () (⟨(hm.pick [0] rfl),trivial⟩) ⟨rfl,trivial⟩ (fun u w hM=>?_)
  obtain ⟨hm,-⟩:=hM
  refine au 5 ?_
  refine Ja rfl rfl (JA (c:=false) (VO rfl rfl) (LN (by omega))) ?_
  refine au 7 ?_
  refine toN (fin Jc rfl .nil .nil ?_)
  have hsr:Pl.Srt key zs 0 xs.length:=by
   rcases hk with h | ⟨h,h20,hs⟩
   · rw [h] at hzs; exact hzs
   · have e:zs=x.2:=Kb fun i=>hzo i (by omega)
     rw [e,h20]; exact hs
  exact ⟨rfl,zs,hzp.trans hxp,hsr,hm⟩
theorem sst_i(g cap:Nat)(xs:List Int)(fi:FuncId)(l2:List Value)(key:Int→Int)(w0:World)(hr:w0.heap[g]?=some (Blk.row 3 (xs.flatMap encI)).Jd)(hl:xs.length≤20)(hg:JH Tryz.prog fi=true)(hf:∀ x y w1,x∈xs→y∈xs→Ext (fun k=>k=g) w0 w1→C Tryz.prog fi (.int .i64 x::.int .i64 y::l2) w1 fun v w2=>v=.int .i64 (Pl.cmpI (key x) (key y))∧Ext No w1 w2):C Tryz.prog 120 [.slice (some ⟨g,0,none⟩) xs.length cap,.func (.func fi) #[] ⟨l2⟩] w0 fun v w'=>v=.tuple ⟨[]⟩∧∃ ys:List Int,ys.Perm xs∧Pl.Srt key ys 0 xs.length∧Mem w0 w' (fun k=>k=g) [(g,.row 3 (ys.flatMap encI))]:=by
 refine Vk Tryz.func120 rfl rfl rfl fun κ _ Je Jc=>?_
 have hm:=Mem.Vq hr
 refine au 5 ?_
 refine cT rfl rfl rfl (stb_i g cap xs fi l2 key _ (hm.get (k:=0) rfl) hl hg (fun a b w9 ha hb hx=>hf a b w9 ha hb (hm.to.trans hx))) fun v w hR=>?_
 obtain ⟨rfl,zs,hzp,hzs,hmc⟩:=hR
 replace hm:=hm.Qv 0 rfl hmc
 refine au 1 ?_
 refine toN (fin Jc rfl .nil .nil ?_)
 exact ⟨rfl,zs,hzp,hzs,hm⟩
end Go.Proofs.YtaehgpeenaomcaaGreat
namespace Go.Pl
open Go Go.Cx Go.Proofs.YtaehgpeenaomcaaGreat
def toAt(cs:List CmdV)(z:Int):Int:=match cs[z.toNat]? with | some c=>c.to | none=>0
end Go.Pl
namespace Go.Proofs.YtaehgpeenaomcaaGreat
open Go Go.Cx
theorem toAt_get{cs:List CmdV}{z:Int}{c:CmdV}(h:cs[z.toNat]?=some c):Pl.toAt cs z=c.to:=by unfold Pl.toAt; rw [h]
theorem d_sorted1(q:Option Addr)(cq:Nat)(cs:List CmdV)(a b:Int)(m1:Nat)(w0:World)(hq:Rd w0 q (cs.flatMap JM))(hb:w0.heap[m1]?=some (Blk.row 24 [.slice q cs.length cq]).Jd)(ha1:0≤a∧a<cs.length)(hb1:0≤b∧b<cs.length):C Tryz.prog 121 [.int .i64 a,.int .i64 b,.pointer (some ⟨m1,0,none⟩)] w0 fun v w'=>v=.int .i64 (Pl.cmpI (Pl.toAt cs a) (Pl.toAt cs b))∧Ext No w0 w':=by
 obtain ⟨c,hc1⟩:∃ y_,cs[a.toNat]?=some y_:=⟨_,La (by omega)⟩
 obtain ⟨d,hd1⟩:∃ y_,cs[b.toNat]?=some y_:=⟨_,La (by omega)⟩
 obtain ⟨qb,qo,rfl⟩:=hq.atI Jf (by decide) hc1
 refine C_o Tryz.func121 fun κ _ Je Jc hm=>?_
 refine au 6 ?_
 refine dw [0,3,6,9,12,15,18,21,24,27,2,31,33] hm fun w hw hm0 hh hm=>?_
 refine au 4 ?_
 refine Ja rfl rfl (Yr rfl sc3.h (hq.Jj hm0.to).nd Jf hc1 rfl) ?_
 refine au 4 ?_
 refine Ja rfl rfl (Yr rfl sc3.h (hq.Jj hm0.to).nd Jf hd1 rfl) ?_
 refine au 1 ?_
 refine cA rfl rfl rfl (c_cmp c.to d.to _) hm fun w hm=>?_
 refine au 5 ?_
 exact ⟨by rw [toAt_get hc1,toAt_get hd1],hm.to⟩
theorem d_sorted2(q:Option Addr)(cq:Nat)(cs:List CmdV)(zs:List Int)(g m1 m3 yl:Nat)(I:List (Nat×Blk)→Nat→World→Prop)(F0:List (Nat×Blk))(w0:World)(hz:∀ z∈zs,0≤z∧z<cs.length)(hl:zs.length≤4611686018427387903)
 (hrow:∀ F i w,I F i w→w.heap[m3]?=some (Blk.row 134 [.slice (some ⟨g,0,none⟩) zs.length zs.length]).Jd∧w.heap[m1]?=some (Blk.row 24 [.slice q cs.length cq]).Jd∧w.heap[g]?=some (Blk.row 3 (zs.flatMap encI)).Jd∧Rd w q (cs.flatMap JM))
 (hext:∀ F i w w' N,I F i w→Mem w w' No N→I (F++N) i w')
 (hy:∀ F i w z c,I F i w→zs[i]?=some z→cs[z.toNat]?=some c→Yw Tryz.prog yl [.int .i64 z,.agg ⟨[.int .i64 c.to,.int .i64 (Pl.clen c.cm)]⟩] w fun v w'=>v=.bool true∧I F (i+1) w') (h0:I F0 0 w0):C Tryz.prog 122 [.func (.yield yl) #[] #[],.pointer (some ⟨m3,0,none⟩),.pointer (some ⟨m1,0,none⟩)] w0 fun v w'=>v=.tuple ⟨[]⟩∧∃ F,I F zs.length w':=by
 refine C_o Tryz.func122 fun κ _ Je Jc hm=>?_
 refine au 2 ?_
 refine Ja rfl rfl (Jh rfl sc134.h (Qo ((hm.to.same _ (Lb.1 (hrow _ _ _ h0).1).1 id).trans (hrow _ _ _ h0).1)) rfl) ?_
 refine au 5 ?_
 refine Jg (ι:=List (Nat×Blk)×Nat) rfl (ks:=[0,2,6,7]) (.cons rfl (.cons rfl (.cons rfl (.cons rfl .nil)))) (fun x=>[(8,.int .i64 x.2)]) (fun x w=>I x.1 x.2 w∧x.2≤zs.length) (fun x=>zs.length-x.2) (F0++_,0) (⟨hext _ _ _ _ _ h0 hm,LL _⟩) ⟨rfl,trivial⟩ (fun x w hM=>?_)
 obtain ⟨hI,hk⟩:=hM
 have hm:=Mem.start w
 obtain ⟨hR1,hR2,hR3,hR4⟩:=hrow _ _ _ hI
 refine au 6 ?_
 refine cd (fun hc0=>?_) fun hc0=>?_
 ·
  simp only [dT] at hc0
  obtain ⟨z,hz1⟩:∃ y_,zs[x.2]?=some y_:=⟨_,La (by omega)⟩
  have hzr:=hz z (Ld hz1)
  obtain ⟨c,hc1⟩:∃ y_,cs[z.toNat]?=some y_:=⟨_,La (by omega)⟩
  obtain ⟨qb,qo,rfl⟩:=hR4.atI Jf (by decide) hc1
  refine au 7 ?_
  refine Ja rfl rfl (J3 rfl sc3.h ((Rd.JL hR3).Jj hm.to).nt Jq hz1 rfl) ?_
  refine au 10 ?_
  refine Ja rfl rfl (JU rfl ag60.h (hR4.Jj hm.to).nt Jf hc1) ?_
  refine cA rfl rfl rfl (Vd c.cm c.d.p c.d.cap _) hm fun w hm=>?_
  have hI2:=hext _ _ _ _ _ hI hm
  refine XM rfl rfl rfl rfl (hy _ _ _ z c hI2 hz1 hc1) fun v w hR=>?_
  refine ⟨trivial,?_⟩
  obtain ⟨rfl,hI3⟩:=hR
  refine au 11 ?_
  exact next (x.1++_,x.2+1) (by simp only; omega) ⟨hI3,by simp only; omega⟩ ⟨nx x.2,rfl,rfl,rfl,rfl,trivial⟩
 ·
  simp only [dF] at hc0
  have hke:x.2=zs.length:=by omega
  refine au 4 ?_
  refine toN (fin Jc rfl .nil .nil ?_)
  exact ⟨rfl,_,by rw [← hke]; exact hext _ _ _ _ _ hI hm⟩
theorem rep_encI:∀ n:Nat,Qn [Value.int .i64 0] n=(List.replicate n (0:Int)).flatMap encI
 | 0=>rfl
 | n+1=>by
  rw [List.replicate_succ,Lk,← rep_encI n]
  rfl
theorem ids_set{k n:Nat}(h:k<n):(Pl.ids k++List.replicate (n-k) 0).set ((k:Int).toNat) (k:Int)=Pl.ids (k+1)++List.replicate (n-(k+1)) 0:=by
 rw [LD,List.set_append_right _ _ (by rw [Pl.Qj]; exact LP _),Pl.Qj,Nat.sub_self,Pl.ids_next,Lp]
 congr 1
 obtain ⟨m,hm⟩:∃ m,n-k=m+1:=⟨n-k-1,by omega⟩
 rw [hm,List.replicate_succ,show n-(k+1)=m by omega]
 rfl
theorem ids_mem{n:Nat}{z:Int}(h:z∈Pl.ids n):0≤z∧z<n:=by
 unfold Pl.ids at h
 obtain ⟨i,hi,rfl⟩:=Ln.1 h
 have:=List.mem_range.1 hi
 omega
theorem d_sorted(q:Option Addr)(cq:Nat)(cs:List CmdV)(w0:World)(hq:Rd w0 q (cs.flatMap JM))(hl:cs.length≤20):C Tryz.prog 94 [.slice q cs.length cq] w0 fun v w'=>∃ (g_o m3 m1:Nat) (zs:List Int),v=.func (.func 122) #[] ⟨[.pointer (some ⟨m3,0,none⟩),.pointer (some ⟨m1,0,none⟩)]⟩∧zs.Perm (Pl.ids cs.length)∧Pl.Srt (Pl.toAt cs) zs 0 cs.length∧Mem w0 w' No [(m3,.row 134 [.slice (some ⟨g_o,0,none⟩) cs.length cs.length]),(g_o,.row 3 (zs.flatMap encI)),(m1,.row 24 [.slice q cs.length cq])]:=by
 refine C_o Tryz.func94 fun κ _ Je Jc hm=>?_
 refine au 2 ?_
 refine bT hm fun m1 w hm=>?_
 refine au 7 ?_
 refine a_make rfl rfl rfl rfl sl134.h z3.h rfl (by omega) (by omega) (by omega) hm trivial fun g_o w hg_o ha_o hm hh=>?_
 rw [rep_encI] at hm
 refine aT hm fun m3 w hm=>?_
 refine st hm 0 fun w hm=>?_
 refine au 11 ?_
 refine Jg (ι:=Nat) rfl (ks:=[1,2,3,9]) (.cons rfl (.cons rfl (.cons rfl (.cons rfl .nil)))) (fun k=>[(10,.int .i64 (k:Int))]) (fun k w=>Mem w0 w No [(m3,.row 134 [.slice (some ⟨g_o,0,none⟩) cs.length cs.length]),(g_o,.row 3 ((Pl.ids k++List.replicate (cs.length-k) (0:Int)).flatMap encI)),(m1,.row 24 [.slice q cs.length cq])]∧k≤cs.length) (fun k=>cs.length-k) 0 (⟨(hm.pick [0,1,2] rfl),LL _⟩) ⟨rfl,trivial⟩ (fun k w hM=>?_)
 obtain ⟨hm,hk⟩:=hM
 refine au 6 ?_
 refine cd (fun hc0=>?_) fun hc0=>?_
 ·
  simp only [dT] at hc0
  refine au 15 ?_
  refine Vi rfl rfl rfl rfl sz3 rfl hm 1 rfl (Nat.ble_eq_true_of_le (by simp only [lenI,Lc,Pl.Qj,List.length_replicate,Li,LA]; omega)) fun w hm=>?_
  rw [XV (by simp only [Lc,Pl.Qj,List.length_replicate]; omega),ids_set (by omega)] at hm
  refine au 7 ?_
  refine next (k+1) (by omega) ⟨(hm.pick [0,1,2] rfl),by omega⟩ ⟨nx k,rfl,rfl,rfl,rfl,trivial⟩
 ·
  simp only [dF] at hc0
  have hke:k=cs.length:=by omega
  rw [hke,Nat.sub_self,List.replicate_zero,Lq] at hm
  refine au 9 ?_
  refine cT rfl rfl rfl (C.eqv (sst_i g_o cs.length (Pl.ids cs.length) 121 [.pointer (some ⟨m1,0,none⟩)] (Pl.toAt cs) _ (hm.get (k:=1) rfl) (by rw [Pl.Qj]; omega) go121 (fun a b w9 ha hb hx=>d_sorted1 q cq cs a b m1 w9 ((hq.Jj hm.to).Yu hx (hm.apartR hq 1 rfl)) ((hx.same _ (Lb.1 (hm.get (k:=2) rfl)).1 (hm.ne 2 1 rfl rfl rfl)).trans (hm.get (k:=2) rfl)) (ids_mem ha) (ids_mem hb))) (by rw [Pl.Qj])) fun v w hR=>?_
  obtain ⟨rfl,zs,hzp,hzs,hmc⟩:=hR
  replace hm:=hm.Qv 1 rfl hmc
  rw [Pl.Qj] at hzs
  refine au 10 ?_
  exact ⟨g_o,m3,m1,zs,rfl,hzp,hzs,hm⟩
theorem toAt_tt(cs:List CmdV):Pl.toAt cs=Pl.Zi (cs.map CmdV.cm):=by
 funext z
 unfold Pl.toAt Pl.Zi
 rw [Lt]
 cases cs[z.toNat]? <;> rfl
theorem d_tiles(oo nn:Int)(q:Option Addr)(cq:Nat)(cs:List CmdV)(w0:World)(hq:Rd w0 q (cs.flatMap JM))(hl:cs.length≤20)(hv:Pl.VD oo nn (cs.map CmdV.cm)):C Tryz.prog 92 [.slice q cs.length cq] w0 fun v w'=>v=.tuple ⟨[.int .i64 nn,.bool false]⟩∧Ext No w0 w':=by
 refine Zt Tryz.func92 rfl rfl rfl fun κ _ Je Jc=>?_
 have hm:=Mem.start w0
 refine au 2 ?_
 refine aT hm fun m1 w hm=>?_
 refine aT hm fun m2 w hm=>?_
 refine au 4 ?_
 refine aT hm fun m3 w hm=>?_
 refine aT hm fun m4 w hm=>?_
 refine st hm 1 fun w hm=>?_
 refine st hm 0 fun w hm=>?_
 refine au 6 ?_
 refine cT rfl rfl rfl (d_sorted q cq cs _ (hq.Jj hm.to) hl) fun v w hR=>?_
 obtain ⟨g_o,qa,qb,zs,rfl,hzp,hzs,hmc⟩:=hR
 replace hm:=hm.Jt hmc
 rw [toAt_tt] at hzs
 have hzl:zs.length=cs.length:=by rw [hzp.length_eq,Pl.Qj]
 have hzp':zs.Perm (Pl.ids (cs.map CmdV.cm).length):=by rw [Lj]; exact hzp
 have hzs':Pl.Srt (Pl.Zi (cs.map CmdV.cm)) zs 0 (cs.map CmdV.cm).length:=by rw [Lj]; exact hzs
 refine au 3 ?_
 refine VJ rfl rfl go122 hm fun a_ fn r0 l w LB hLB hfr hl_ hs_ hm=>?_
 refine C.mono (d_sorted2 q cq cs zs g_o qb qa l (fun F i w=>Mem w0 w No ((l,LB .ready none)::(r0,dblk (some []))::(qa,.row 134 [.slice (some ⟨g_o,0,none⟩) cs.length cs.length])::(g_o,.row 3 (zs.flatMap encI))::(qb,.row 24 [.slice q cs.length cq])::(m4,.row 3 [.int .i64 (-1)])::(m3,.row 3 [.int .i64 (Pl.tsum (cs.map CmdV.cm) (zs.take i))])::(m2,.row 4 [.bool false])::(m1,.row 3 [.int .i64 0])::F)) [] _ (fun z hz=>ids_mem (hzp.subset hz)) (by omega)
  (by intro F i w hm; rw [hzl]; exact ⟨hm.get (k:=2) rfl,hm.get (k:=4) rfl,hm.get (k:=3) rfl,hq.Jj hm.to⟩)
  (by intro F i w w' N hm hc; exact Mem.callT (N1:=[]) hm hc)
  (fun F i w z c hm hz1 hc1=>?_) hm) (fun v w hR=>?_)
 ·
  subst hLB
  have hto:=Pl.tile_to hv hzp' hzs' i z hz1
  have hnx:=Pl.Ve (cs:=(cs.map CmdV.cm)) hz1
  have ht1:Pl.Zi (cs.map CmdV.cm) z=c.to:=by unfold Pl.Zi; rw [cmsGet hc1]; rfl
  have ht2:Pl.lnAt (cs.map CmdV.cm) z=Pl.clen c.cm:=by unfold Pl.lnAt; rw [cmsGet hc1]
  have hck:=Pl.Jl (Pl.Jw (hv.one c.cm (Ln.2 ⟨c,Ld hc1,rfl⟩))).1
  rw [ht1] at hto
  rw [ht2,← hto] at hnx
  have k2:c.cm.to=c.to:=rfl
  rw [k2] at hck
  refine Yw.of hfr (hm.get (k:=0) rfl) rfl rfl ?_
  refine au 1 ?_
  refine aT hm fun m5 w hm=>?_
  refine st hm 0 fun w hm=>?_
  refine au 1 ?_
  refine Xf hm 1 rfl fun w hm=>?_
  refine XC rfl ?_
  refine Qb rfl ?_
  refine Qb rfl ?_
  refine JT (.pure 0 (.pure 1 (.pure 2 (.pure 3 .done)))) (by kernel_rfl) ?_
  refine Ja rfl rfl (Jv rfl fo32_0.h) ?_
  refine Ja rfl rfl (Jh rfl sc3.h (hm.nt 0 rfl) rfl) ?_
  refine Ja rfl rfl (Jh rfl sc3.h (hm.nt 7 rfl) rfl) ?_
  refine Ja rfl rfl (JA (c:=false) (VO rfl rfl) (LN (by omega))) ?_
  refine Qc ?_
  refine QV ?_
  refine Ye rfl rfl rfl ?_
  refine HW_skip rfl ?_
  refine QV ?_
  refine Qb rfl ?_
  refine Qb rfl ?_
  refine JT (.pure 0 (.pure 1 (.pure 2 (.pure 3 (.pure 4 (.pure 5 (.pure 6 (.pure 7 .done)))))))) (by kernel_rfl) ?_
  refine Ja rfl rfl (Jv rfl fo32_0.h) ?_
  refine Ja rfl rfl (Jh rfl sc3.h (hm.nt 0 rfl) rfl) ?_
  refine Ja rfl rfl (Jh rfl sc3.h (hm.nt 7 rfl) rfl) ?_
  refine Ja rfl rfl (JA (c:=false) (XE rfl rfl) (LN (by omega))) ?_
  refine au 11 ?_
  refine cA rfl rfl rfl (QC c.to (Pl.clen c.cm) _ (by simp only [Pl.I64]; omega)) hm fun w hm=>?_
  refine st hm 7 fun w hm=>?_
  refine au 2 ?_
  refine g_end hm 1 rfl fun w hm=>?_
  refine ⟨rfl,?_⟩
  rw [hnx]
  exact (hm.Jp [1,2,3,4,5,6,7,8,9] 10 rfl)
 ·
  subst hLB
  obtain ⟨rfl,F,hm⟩:=hR
  rw [Lv,Pl.tile_end hv hzp' hzs'] at hm
  refine ⟨.ready,none,nofun,hm.get (k:=0) rfl,fun w4 hw4=>?_⟩
  replace hm:=Xw hm hw4
  refine au 6 ?_
  refine Ja rfl rfl (JA (c:=false) (y_ge rfl rfl) (by decide)) ?_
  refine au 8 ?_
  refine st hm 7 fun w hm=>?_
  refine st hm 6 fun w hm=>?_
  refine au 3 ?_
  refine toR (fin1 Je rfl hm 0 rfl .more fun w hm=>⟨(.cell rfl (JN sc3.h (hm.get (k:=7) rfl) rfl) (.cell rfl (JN sc4.h (hm.get (k:=6) rfl) rfl) .nil)),?_⟩)
  exact ⟨rfl,hm.to⟩
theorem fm_next{cs:List CmdV}{zs:List Int}{i:Nat}{z:Int}{c:CmdV}(h:zs[i]?=some z)(hc:cs[z.toNat]?=some c):((zs.take (i+1)).filterMap fun z=>cs[z.toNat]?)=((zs.take i).filterMap fun z=>cs[z.toNat]?)++[c]:=by
 rw [LC,h,List.filterMap_append]
 simp [hc]
theorem fm_mem{cs:List CmdV}{zs:List Int}{c:CmdV}(h:c∈zs.filterMap fun z=>cs[z.toNat]?):c∈cs:=by
 obtain ⟨z,_,hz⟩:=List.mem_filterMap.1 h
 exact Ld hz
theorem fm_len{cs:List CmdV}{zs:List Int}:(zs.filterMap fun z=>cs[z.toNat]?).length≤zs.length:=List.length_filterMap_le _ _
theorem dl_check(oo nn:Int)(H:Nat→UInt8)(q:Option Addr)(cq:Nat)(cs:List CmdV)(w0:World)(hq:Rd w0 q (cs.flatMap JM))(hl:cs.length≤20)(hok:∀ c∈cs,Q1 w0 c)(hbl:∀ c∈cs,c.d.bs.length≤140737488355328)(hv:Pl.VD oo nn (cs.map CmdV.cm)):C Tryz.prog 62 [.agg ⟨dlV oo nn H q cs.length cq⟩] w0 fun v w'=>v=.agg ⟨[.int .i64 0,.int .i64 0]⟩∧Ext No w0 w':=by
 have hlens:=hv.lens
 have hone:∀ c∈cs,Pl.single oo nn c.cm=0:=fun c hc=>hv.one c.cm (Ln.2 ⟨c,hc,rfl⟩)
 refine C_o Tryz.func62 fun κ _ Je Jc hm=>?_
 refine au 2 ?_
 refine bT hm fun m1 w hm=>?_
 refine aT hm fun m2 w hm=>?_
 refine au 7 ?_
 refine cA rfl rfl rfl (C.as (v:=.bool true) (d_inRange oo _ (by simp only [Pl.I64]; omega)) (LM Value.bool (Pl.VU.2 (by omega)))) hm fun w hm=>?_
 refine au 4 ?_
 refine cA rfl rfl rfl (C.as (v:=.bool true) (d_inRange nn _ (by simp only [Pl.I64]; omega)) (LM Value.bool (Pl.VU.2 (by omega)))) hm fun w hm=>?_
 refine au 17 ?_
 refine Jg (ι:=Nat) rfl (ks:=[1,2,20,21]) (.cons rfl (.cons rfl (.cons rfl (.cons rfl .nil)))) (fun k=>[(22,.int .i64 (k:Int))]) (fun k w=>Mem w0 w No [(m2,.row 46 [.int .i64 0,.int .i64 0]),(m1,.row 26 (dlV oo nn H q cs.length cq))]∧k≤cs.length) (fun k=>cs.length-k) 0 (⟨(hm.pick [0,1] rfl),LL _⟩) ⟨rfl,trivial⟩ (fun k w hM=>?_)
 obtain ⟨hm,hk⟩:=hM
 refine au 6 ?_
 refine cd (fun hc1=>?_) fun hc1=>?_
 ·
  simp only [dT] at hc1
  obtain ⟨c,hi⟩:∃ y_,cs[k]?=some y_:=⟨_,La (by omega)⟩
  obtain ⟨qb,qo,rfl⟩:=hq.atI Jf (by decide) hi
  have hokc:=hok c (Ld hi)
  have hbc:=hbl c (Ld hi)
  have hon:=hone c (Ld hi)
  refine au 8 ?_
  refine Ja rfl rfl (JU rfl ag60.h (hq.Jj hm.to).nt Jf hi) ?_
  refine aT hm fun m3 w hm=>?_
  refine au 1 ?_
  refine st hm 0 fun w hm=>?_
  refine au 4 ?_
  refine Ja rfl rfl (Jm (s:=67) (vs:=dlV oo nn H _ cs.length cq) rfl ag26.h (hm.nt 2 rfl) rfl) ?_
  refine au 1 ?_
  refine cA rfl rfl rfl (C.as (v:=.int .i64 0) (d_single oo nn H _ cs.length cq c.cm c.d.p c.d.cap _ hokc.cm (by have:c.cm.bs.length=c.d.bs.length:=rfl; omega)) (by rw [hon])) hm fun w hm=>?_
  refine au 6 ?_
  refine Ja rfl rfl (JA (c:=false) (XD rfl rfl) (by decide)) ?_
  refine au 10 ?_
  refine next (k+1) (by omega) ⟨(hm.pick [1,2] rfl),by omega⟩ ⟨nx k,rfl,rfl,rfl,rfl,trivial⟩
 ·
  simp only [dF] at hc1
  refine au 9 ?_
  refine cA rfl rfl rfl (d_tiles oo nn _ cq cs _ (hq.Jj hm.to) hl hv) hm fun w hm=>?_
  refine au 22 ?_
  refine Ja rfl rfl (JA (c:=false) (VO rfl rfl) (LN (Int.lt_irrefl _))) ?_
  refine au 8 ?_
  refine st hm 0 fun w hm=>?_
  refine au 4 ?_
  exact ⟨rfl,hm.to⟩
theorem d_sort(oo nn:Int)(H:Nat→UInt8)(q:Option Addr)(cq:Nat)(cs:List CmdV)(w0:World)(hq:Rd w0 q (cs.flatMap JM))(hl:cs.length≤20)(hok:∀ c∈cs,Q1 w0 c)(hbl:∀ c∈cs,c.d.bs.length≤140737488355328)(hv:Pl.VD oo nn (cs.map CmdV.cm)):C Tryz.prog 63 [.agg ⟨dlV oo nn H q cs.length cq⟩] w0 fun v w'=>∃ (zs:List Int) (ys:List CmdV) (p:Option Addr) (n cap g:Nat) (b:Blk) (B:List (Nat×Blk)),v=.agg ⟨dlV oo nn H p n cap⟩∧Acc 60 5 p n cap (ys.flatMap JM) g b∧ys.map CmdV.cm=(zs.filterMap fun z=>cs[z.toNat]?).map CmdV.cm∧(∀ y∈ys,Held B 5 y.d)∧zs.Perm (Pl.ids cs.length)∧Pl.Srt (Pl.Zi (cs.map CmdV.cm)) zs 0 cs.length∧Mem w0 w' No ((g,b)::B):=by
 refine Zt Tryz.func63 rfl rfl rfl fun κ _ Je Jc=>?_
 have hm:=Mem.start w0
 refine au 2 ?_
 refine bT hm fun m1 w hm=>?_
 refine aT hm fun m2 w hm=>?_
 refine au 4 ?_
 refine aT hm fun m3 w hm=>?_
 replace hm:=hm.JP
 have ha_u:=Acc.nil 60 5 none 0
 refine au 7 ?_
 refine cT rfl rfl rfl (d_sorted q cq cs _ (hq.Jj hm.to) hl) fun v w hR=>?_
 obtain ⟨g_o,qa,qb,zs,rfl,hzp,hzs,hmc⟩:=hR
 replace hm:=hm.Jt hmc
 rw [toAt_tt] at hzs
 have hzl:zs.length=cs.length:=by rw [hzp.length_eq,Pl.Qj]
 have hzp':zs.Perm (Pl.ids (cs.map CmdV.cm).length):=by rw [Lj]; exact hzp
 have hzs':Pl.Srt (Pl.Zi (cs.map CmdV.cm)) zs 0 (cs.map CmdV.cm).length:=by rw [Lj]; exact hzs
 refine au 3 ?_
 refine VJ rfl rfl go122 hm fun a_ fn r0 l w LB hLB hfr hl_ hs_ hm=>?_
 refine C.mono (d_sorted2 q cq cs zs g_o qb qa l (fun F i w=>∃ (p:Option Addr) (n cap g:Nat) (b:Blk),Mem w0 w No ((l,LB .ready none)::(r0,dblk (some []))::(qa,.row 134 [.slice (some ⟨g_o,0,none⟩) cs.length cs.length])::(g_o,.row 3 (zs.flatMap encI))::(qb,.row 24 [.slice q cs.length cq])::(g,b)::(m3,.row 24 [.slice p n cap])::(m2,.row 26 (dlV 0 0 (fun _=>0) none 0 0))::(m1,.row 26 (dlV oo nn H q cs.length cq))::F)∧Acc 60 5 p n cap (((zs.take i).filterMap fun z=>cs[z.toNat]?).flatMap JM) g b∧n=i) [] _ (fun z hz=>ids_mem (hzp.subset hz)) (by omega)
  (by rintro F i w ⟨p,n,cap,g,b,hm,-⟩; rw [hzl]; exact ⟨hm.get (k:=2) rfl,hm.get (k:=4) rfl,hm.get (k:=3) rfl,hq.Jj hm.to⟩)
  (by rintro F i w w' N ⟨p,n,cap,g,b,hm,ha,hn⟩ hc; exact ⟨p,n,cap,g,b,Mem.callT (N1:=[]) hm hc,ha,hn⟩)
  (fun F i w z c hI hz1 hc1=>?_) ⟨_,_,_,_,_,hm,ha_u,rfl⟩) (fun v w hR=>?_)
 ·
  subst hLB
  obtain ⟨p_u,n_u,cap_u,g_u,b_u,hm,ha_u,hnu⟩:=hI
  obtain ⟨qb2,qo,rfl⟩:=hq.atI Jf (by decide) hc1
  have hzb:=ids_mem (hzp.subset (Ld hz1))
  have hil:=(Le.1 hz1).1
  refine Yw.of hfr (hm.get (k:=0) rfl) rfl rfl ?_
  refine au 3 ?_
  refine Xf hm 0 rfl fun w hm=>?_
  refine au 1 ?_
  refine dw [0,3,6,9,12,15,19,2,22,25] hm fun w hw hm0 hh hm=>?_
  refine Ja rfl rfl (Jh rfl sc24.h (hm0.nd 6 rfl id) rfl) ?_
  refine Ja rfl rfl (Jv rfl fo26_4.h) ?_
  refine Ja rfl rfl (Jh rfl sc24.h (hm0.nd 8 rfl id) rfl) ?_
  refine Ja rfl rfl (Jx rfl) ?_
  refine Ja rfl rfl (Qy rfl rfl sl24.h rfl (by omega) (by omega)) ?_
  refine Ja rfl rfl (JU rfl ag60.h (hq.Jj hm0.to).nd Jf hc1) ?_
  refine Jb (l:=[_,_,_,_,_]) rfl rfl sl24.h z60.h rfl rfl rfl rfl rfl rfl rfl hm hh fun m4 w hg_m4 hm hh=>?_
  refine au 1 ?_
  refine Jy rfl rfl rfl rfl rfl rfl sl24.h sl24.h z60.h rfl rfl (Rd.JL (hm.get (k:=0) rfl)) rfl ha_u hm 6 rfl (by omega) (by omega) fun p_u cap_u g_u b_u w ha_u hm=>?_
  refine st hm 7 fun w hm=>?_
  refine au 2 ?_
  refine g_end hm 1 rfl fun w hm=>?_
  refine ⟨rfl,p_u,_,cap_u,g_u,b_u,(hm.Jp [1,2,3,4,5,6,7,8,9] 10 rfl),ha_u.to ?_,by omega⟩
  rw [fm_next hz1 hc1,Lh]; simp only [Lk,LY,Lq]; rfl
 ·
  subst hLB
  obtain ⟨rfl,F,p_u,n_u,cap_u,g_u,b_u,hm,ha_u,hnu⟩:=hR
  rw [Lv] at ha_u
  obtain rfl:=ha_u.QB Jf (by decide)
  refine ⟨.ready,none,nofun,hm.get (k:=0) rfl,fun w4 hw4=>?_⟩
  replace hm:=Xw hm hw4
  refine au 4 ?_
  refine Ja rfl rfl (Jm (s:=67) (vs:=dlV oo nn H _ _ _) rfl ag26.h (hm.nt 7 rfl) rfl) ?_
  refine au 1 ?_
  have hcon:=(d_with oo nn H q cs.length cq p_u cap_u (zs.filterMap fun z=>cs[z.toNat]?) _ (ha_u.rd hm 4 rfl) (fun c hc=>Q1.mono (hok c (fm_mem hc)) hm.to) (by have:=fm_len (cs:=cs) (zs:=zs); omega) (fun c hc=>hbl c (fm_mem hc)))
  refine cT rfl rfl rfl hcon fun v w hR=>?_
  obtain ⟨xs_s,p_s,n_s,cap_s,g_s,b_s,B_s,rfl,ha_s,hx_s,hh_s,hmc⟩:=hR
  replace hm:=hm.VZ hmc
  obtain rfl:=ha_s.QB Jf (by decide)
  refine st hm 7 fun w hm=>?_
  replace hm:=Xu hm rfl
  refine au 3 ?_
  refine toR (fin1 Je rfl hm 1 rfl .one fun w hm=>⟨(.cell rfl (Ju (vs:=dlV oo nn H _ _ _) ag26.h (hm.get (k:=7) rfl) rfl) .nil),?_⟩)
  exact ⟨zs,xs_s,_,_,_,_,_,F++B_s,rfl,ha_s,hx_s,fun y hy=>(hh_s y hy).right,hzp,by rw [Lj] at hzs'; exact hzs',(hm.Jp [0] 9 rfl)⟩
theorem p_describe(r:Option Addr)(cr:Nat)(f:List UInt8)(s:Option Addr)(cs2:Nat)(g:List UInt8)(q:Option Addr)(cq:Nat)(cs:List CmdV)(w0:World)(hf:Rd w0 r (f.flatMap Jk))(hfl:f.length≤1000000)(hg:Rd w0 s (g.flatMap Jk))(hgl:g.length≤1000000)(hq:Rd w0 q (cs.flatMap JM))(hok:∀ c∈cs,Q1 w0 c)(hl:cs.length≤1000000)(hbl:∀ c∈cs,c.d.bs.length≤140737488355328):C Tryz.prog 11 [.slice r f.length cr,.slice s g.length cs2,.slice q cs.length cq] w0 fun v w'=>∃ (ys:List CmdV) (p:Option Addr) (n cap gg:Nat) (b:Blk) (B:List (Nat×Blk)),v=.agg ⟨dlV f.length g.length (Pl.hh (Pl.sha f) (Pl.sha g)) p n cap⟩∧Acc 60 5 p n cap (ys.flatMap JM) gg b∧ys.map CmdV.cm=cs.map CmdV.cm∧(∀ y∈ys,Held B 5 y.d)∧Mem w0 w' No ((gg,b)::B):=by
 refine C_o Tryz.func11 fun κ _ Je Jc hm=>?_
 refine au 2 ?_
 refine aT hm fun m1 w hm=>?_
 refine au 9 ?_
 refine Jb (l:=[_]) rfl rfl sl88.h z22.h rfl rfl rfl rfl rfl rfl rfl hm trivial fun m2 w hg_m2 hm hh=>?_
 refine cA rfl rfl rfl (C.as (v:=.agg ⟨hV (Pl.sha f)⟩) (h_of _ 1 [⟨r,cr,f⟩] _ (Rd.JL (hm.get (k:=0) rfl)) (by intro s9 hs9; rw [Lf.1 hs9]; exact hf.Jj hm.to) (by simp) (by simp only [Lk,LY,Lq]; omega)) (by simp only [Lk,LY,Lq]; rw [hV_eq (Pl.Qz _)])) hm fun w hm=>?_
 refine au 1 ?_
 refine Jb (l:=[_]) rfl rfl sl88.h z22.h rfl rfl rfl rfl rfl rfl rfl hm trivial fun m3 w hg_m3 hm hh=>?_
 refine cA rfl rfl rfl (C.as (v:=.agg ⟨hV (Pl.sha g)⟩) (h_of _ 1 [⟨s,cs2,g⟩] _ (Rd.JL (hm.get (k:=0) rfl)) (by intro s9 hs9; rw [Lf.1 hs9]; exact hg.Jj hm.to) (by simp) (by simp only [Lk,LY,Lq]; omega)) (by simp only [Lk,LY,Lq]; rw [hV_eq (Pl.Qz _)])) hm fun w hm=>?_
 refine Ja rfl rfl (y_buildK (cs:=dlV f.length g.length (Pl.hh (Pl.sha f) (Pl.sha g)) none 0 0) z26.h ft26.h rfl rfl rfl (by kernel_rfl) (by kernel_rfl)) ?_
 refine au 1 ?_
 have hcon:=d_with f.length g.length (Pl.hh (Pl.sha f) (Pl.sha g)) none 0 0 q cq cs _ (hq.Jj hm.to) (fun c hc=>Q1.mono (hok c hc) hm.to) hl hbl
 refine cT rfl rfl rfl hcon fun v w hR=>?_
 obtain ⟨xs_s,p_s,n_s,cap_s,g_s,b_s,B_s,rfl,ha_s,hx_s,hh_s,hmc⟩:=hR
 replace hm:=hm.VZ hmc
 obtain rfl:=ha_s.QB Jf (by decide)
 refine st hm 3 fun w hm=>?_
 replace hm:=Xu hm rfl
 refine au 3 ?_
 refine toR (fin Je rfl (.cell rfl (Ju (vs:=dlV f.length g.length (Pl.hh (Pl.sha f) (Pl.sha g)) _ _ _) ag26.h (hm.get (k:=3) rfl) rfl) .nil) .one ?_)
 exact ⟨xs_s,_,_,_,_,_,B_s,rfl,ha_s,hx_s,hh_s,(hm.Jp [0] 4 rfl)⟩
theorem held_notZ{w0 w:World}{X:Bs}{A Z B:List (Nat×Blk)}{u8:Nat}{s:SB}(hm:Mem w0 w X (A++(Z++B)))(h:Held B u8 s)(hne:s.bs.flatMap Jk≠[]):∀ ad,s.p=some ad→¬ Mn (reals Z) ad.block:=fun ad e hz=>by
 obtain ⟨g,b,hin,ha⟩:=h
 have hn:s.bs.length≠0:=fun h0=>hne (by rw [Ll.1 h0]; rfl)
 have hp:=ha.ptr (by omega)
 rw [e] at hp
 cases hp
 obtain ⟨h1,h2⟩:=ha.at9 hne
 obtain ⟨c,hc,hcr⟩:=JD.1 hz
 have hd:=hm.nodup
 rw [Qi,Qi] at hd
 have hd2:=(Kg.1 hd).2.1
 have:=(Kg.1 hd2).2.2 g (JD.2 ⟨c,hc,hcr⟩) g (JD.2 ⟨b,hin,h2⟩)
 exact this rfl
theorem fm_pick(cs:List CmdV)(zs:List Int):(zs.filterMap fun z=>cs[z.toNat]?).map CmdV.cm=Pl.Xd (cs.map CmdV.cm) zs:=by
 unfold Pl.Xd
 rw [List.map_filterMap]
 congr 1
 funext z
 rw [Lt]
theorem f_next{f:List UInt8}{ys:List CmdV}{k:Nat}{y:CmdV}(h:ys[k]?=some y):((ys.take (k+1)).map CmdV.cm).flatMap (Pl.cbs f)=((ys.take k).map CmdV.cm).flatMap (Pl.cbs f)++Pl.cbs f y.cm:=by
 rw [LC,h,Lx,Lh]
 simp
theorem p_verify(oo nn:Int)(q:Option Addr)(cq:Nat)(cs:List CmdV)(w0:World)(hq:Rd w0 q (cs.flatMap JM))(hl:cs.length≤20)(hok:∀ c∈cs,Q1 w0 c)(hbl:∀ c∈cs,c.d.bs.length≤140737488355328)(hv:Pl.VD oo nn (cs.map CmdV.cm))(r:Option Addr)(cr:Nat)(f:List UInt8)(hf:Rd w0 r (f.flatMap Jk))(hfl:f.length≤cr∧f.length≤1000000)(hfs:cr≠0→∀ ad,r=some ad→ad.spot=none)(ho:oo=f.length)(hn:nn≤1000000):C Tryz.prog 43 [.slice r f.length cr,.agg ⟨dlV oo nn (Pl.hh (Pl.sha f) (Pl.sha (Pl.apl f (cs.map CmdV.cm) nn.toNat))) q cs.length cq⟩] w0 fun v w'=>v=.agg ⟨[.int .i64 0,.int .i64 0]⟩∧Ext No w0 w':=by
 have hlens:=hv.lens
 have hone:∀ c∈cs,Pl.single oo nn c.cm=0:=fun c hc=>hv.one c.cm (Ln.2 ⟨c,hc,rfl⟩)
 refine C_o Tryz.func43 fun κ _ Je Jc hm=>?_
 refine au 2 ?_
 refine bT hm fun m1 w hm=>?_
 refine aT hm fun m2 w hm=>?_
 refine au 5 ?_
 refine Ja rfl rfl (Jm (s:=67) (vs:=dlV oo nn (Pl.hh (Pl.sha f) (Pl.sha (Pl.apl f (cs.map CmdV.cm) nn.toNat))) _ cs.length cq) rfl ag26.h (hm.nt 1 rfl) rfl) ?_
 refine cA rfl rfl rfl (dl_check oo nn _ q cq cs _ (hq.Jj hm.to) hl (fun c hc=>Q1.mono (hok c hc) hm.to) hbl hv) hm fun w hm=>?_
 refine aT hm fun m3 w hm=>?_
 refine st hm 0 fun w hm=>?_
 refine au 6 ?_
 refine Ja rfl rfl (JA (c:=false) (y_ne2 rfl rfl iii46) (by decide)) ?_
 refine au 13 ?_
 refine Ja rfl rfl (JA (c:=false) (XD rfl rfl) (LN (fun h=>h ho))) ?_
 refine au 5 ?_
 refine dw [0,9,12,4,7,15,18] hm fun w hw hm0 hh hm=>?_
 refine au 2 ?_
 refine Ja rfl rfl (Jm (s:=32) (vs:=hV (Pl.sha f)) rfl ag23.h (hm0.nd 2 rfl id) (by kernel_rfl)) ?_
 refine Jb (l:=[_]) rfl rfl sl88.h z22.h rfl rfl rfl rfl rfl rfl rfl hm hh fun m4 w hg_m4 hm hh=>?_
 refine cB rfl rfl rfl (C.as (v:=.agg ⟨hV (Pl.sha f)⟩) (h_of _ 1 [⟨r,cr,f⟩] _ (Rd.JL (hm.get (k:=0) rfl)) (by intro s9 hs9; rw [Lf.1 hs9]; exact hf.Jj hm.to) (by simp) (by simp only [Lk,LY,Lq]; omega)) (by simp only [Lk,LY,Lq]; rw [hV_eq (Pl.Qz _)])) hm hh fun w hm hh=>?_
 refine Ja rfl rfl (JA (c:=false) (y_neF rfl rfl fl23 rfl rfl) (by simp [eqL,lfEq,hV])) ?_
 refine au 9 ?_
 refine cT rfl rfl rfl (h_new _) fun v w hR=>?_
 obtain ⟨m_h,Z_h,rfl,hz_h,hmc⟩:=hR
 replace hm:=Mem.XR hm hmc
 refine au 6 ?_
 refine Ja rfl rfl (Jm (s:=67) (vs:=dlV oo nn (Pl.hh (Pl.sha f) (Pl.sha (Pl.apl f (cs.map CmdV.cm) nn.toNat))) _ cs.length cq) rfl ag26.h (hm.nt 3 rfl) rfl) ?_
 have hcon:=d_sort oo nn (Pl.hh (Pl.sha f) (Pl.sha (Pl.apl f (cs.map CmdV.cm) nn.toNat))) q cq cs _ (hq.Jj hm.to) hl (fun c hc=>Q1.mono (hok c hc) hm.to) hbl hv
 refine cT rfl rfl rfl hcon fun v w hR=>?_
 obtain ⟨zs,ys,p_s,n_s,cap_s,g_s,b_s,B_s,rfl,ha_s,hys,hhs,hzp,hzs,hmc⟩:=hR
 replace hm:=hm.VZ hmc
 obtain rfl:=ha_s.QB Jf (by decide)
 have hzp':zs.Perm (Pl.ids (cs.map CmdV.cm).length):=by rw [Lj]; exact hzp
 have hzs':Pl.Srt (Pl.Zi (cs.map CmdV.cm)) zs 0 (cs.map CmdV.cm).length:=by rw [Lj]; exact hzs
 have hyc:∀ y∈ys,Pl.single oo nn y.cm=0:=fun y hy=>by
  have h9:y.cm∈ys.map CmdV.cm:=Ln.2 ⟨y,hy,rfl⟩
  rw [hys] at h9
  obtain ⟨c,hc,e⟩:=Ln.1 h9
  rw [← e]; exact hone c (fm_mem hc)
 have hall:(((ys).map CmdV.cm).flatMap (Pl.cbs f))=(Pl.apl f (cs.map CmdV.cm) nn.toNat):=by
  rw [hys,fm_pick,Pl.flat_all hv ho hzp' hzs']
 have hyl:ys.length≤20:=by
  have h9:=LM List.length hys
  rw [Lj,Lj] at h9
  have h8:=fm_len (cs:=cs) (zs:=zs)
  have h7:=hzp.length_eq
  rw [Pl.Qj] at h7
  omega
 have hal:(Pl.apl f (cs.map CmdV.cm) nn.toNat).length≤1000000:=by unfold Pl.apl; rw [Lj,List.length_range]; omega
 have hpre:∀ k,(((ys.take k).map CmdV.cm).flatMap (Pl.cbs f)).length≤1000000:=fun k=>by
  have h9:(((ys).map CmdV.cm).flatMap (Pl.cbs f)).length=(((ys.take k).map CmdV.cm).flatMap (Pl.cbs f)).length+(((ys.drop k).map CmdV.cm).flatMap (Pl.cbs f)).length:=by
   conv=>lhs; rw [← Ke k ys]
   rw [Lx,Lh,Lc]
  rw [hall] at h9
  omega
 refine Ja rfl rfl (QF rfl fv26_4 rfl) ?_
 refine au 5 ?_
 refine Jg (ι:=Nat×List (Nat×Blk)) rfl (ks:=[0,3,4,6,35,36]) (.cons rfl (.cons rfl (.cons rfl (.cons rfl (.cons rfl (.cons rfl .nil)))))) (fun x=>[(37,.int .i64 (x.1:Int))]) (fun x w=>Mem w0 w No ((g_s,b_s)::(m3,.row 46 [.int .i64 0,.int .i64 0])::(m2,.row 46 [.int .i64 0,.int .i64 0])::(m1,.row 26 (dlV oo nn (Pl.hh (Pl.sha f) (Pl.sha (Pl.apl f (cs.map CmdV.cm) nn.toNat))) q cs.length cq))::(x.2++B_s))∧VN 126 5 (((ys.take x.1).map CmdV.cm).flatMap (Pl.cbs f)) m_h x.2∧x.1≤ys.length) (fun x=>ys.length-x.1) (0,Z_h) (⟨(hm.Jp [0,2,3,4] 5 rfl),hz_h,LL _⟩) ⟨rfl,trivial⟩ (fun x w hM=>?_)
 obtain ⟨k,Z_h⟩:=x
 obtain ⟨hm,hz_h,hk⟩:=hM
 simp only at hm hz_h hk
 refine au 6 ?_
 refine cd (fun hc3=>?_) fun hc3=>?_
 ·
  simp only [dT] at hc3
  obtain ⟨y,hi⟩:∃ y_,ys[k]?=some y_:=⟨_,La (by omega)⟩
  have hym:=Ld hi
  have hy1:=Pl.Jw (hyc y hym)
  have hyh:=hhs y hym
  obtain ⟨qb2,qo,rfl⟩:=(ha_s.rd hm 0 rfl).atI Jf (by decide) hi
  have hp1:=hpre k
  have hp2:=hpre (k+1)
  rw [f_next hi,Lc] at hp2
  refine au 7 ?_
  refine Ja rfl rfl (JU rfl ag60.h (ha_s.rd hm 0 rfl).nt Jf hi) ?_
  refine aT hm fun m5 w hm=>?_
  refine st hm 0 fun w hm=>?_
  refine au 6 ?_
  refine cA rfl rfl rfl (p_bytesOf r cr f y.cm y.d.p y.d.cap _ hy1.1 (fun h9=>by have:=hy1.2.1 h9; omega) (hf.Jj hm.to) hfl.1 hfs (hyh.rd hm (by intro e he; exact .tail _ (.tail _ (.tail _ (.tail _ (.tail _ (Ly _ he))))))) hyh.le hyh.spot) hm fun w hm=>?_
  refine Jb (l:=[_]) rfl rfl sl88.h z22.h rfl rfl rfl rfl rfl rfl rfl hm trivial fun m6 w hg_m6 hm hh=>?_
  refine cT rfl rfl rfl (h_write _ 1 [⟨(bqP r cr y.d.p y.cm),(bqC cr y.d.cap y.cm),(Pl.cbs f y.cm)⟩] 126 m_h (((ys.take k).map CmdV.cm).flatMap (Pl.cbs f)) Z_h _ (Jr.mid (A:=[_,_,_,_,_,_]) hm.Jz) hz_h (by omega) (Rd.JL (hm.get (k:=0) rfl)) (by simp only [Lf]; rintro _ rfl; exact (bq_rd (hf.Jj hm.to) hfl.1 (hyh.rd hm (by intro e he; exact .tail _ (.tail _ (.tail _ (.tail _ (.tail _ (.tail _ (Ly _ he)))))))))) (hm.notSw (A:=[_,_,_,_,_,_]) 0 rfl) (by simp only [Lf]; rintro _ rfl; exact (bq_ap ((Mem.right (L:=[_,_,_,_,_,_]) hm).left.apartX hf (fun _ _ _ h=>h)) (fun hne=>held_notZ (A:=[_,_,_,_,_,_]) hm hyh hne))) (by simp) (by first | (simp only [Lk,LY,Lq]; omega) | (simp <;> omega))) fun v w hR=>?_
  obtain ⟨rfl,Z_h,hz_h,hmc⟩:=hR
  replace hm:=Mem.callM (A:=[_,_,_,_,_,_]) hm hmc
  simp only [Lk,LY,Lq] at hz_h
  refine au 7 ?_
  refine next (k+1,Z_h) (by simp only; omega) ⟨(hm.Jp [2,3,4,5] 6 rfl),by simp only; rw [f_next hi]; exact hz_h,by simp only; omega⟩ ⟨nx k,rfl,rfl,rfl,rfl,rfl,rfl,trivial⟩
 ·
  simp only [dF] at hc3
  have hke:k=ys.length:=by omega
  rw [hke,Lv,hall] at hz_h
  refine au 7 ?_
  refine dw [0,6,9,4,12] hm fun w hw hm0 hh hm=>?_
  refine au 2 ?_
  refine Ja rfl rfl (Jm (s:=32) (vs:=hV (Pl.sha (Pl.apl f (cs.map CmdV.cm) nn.toNat))) rfl ag23.h (hm0.nd 3 rfl id) (by kernel_rfl)) ?_
  refine cB rfl rfl rfl (C.as (v:=.agg ⟨hV (Pl.sha (Pl.apl f (cs.map CmdV.cm) nn.toNat))⟩) (h_sum 126 m_h (Pl.apl f (cs.map CmdV.cm) nn.toNat) Z_h _ (Jr.mid (A:=[_,_,_,_]) hm.Jz) hz_h (by omega)) (by rw [hV_eq (Pl.Qz _)])) hm hh fun w hm hh=>?_
  refine Ja rfl rfl (JA (c:=false) (y_neF rfl rfl fl23 rfl rfl) (by simp [eqL,lfEq,hV])) ?_
  refine au 8 ?_
  refine st hm 2 fun w hm=>?_
  refine au 4 ?_
  exact ⟨rfl,hm.to⟩
theorem s_reads1(a b c e:Int)(m:Nat)(w0:World)(hb:w0.heap[m]?=some (Blk.row 32 [.int .i64 a,.int .i64 b]).Jd)(h1:0≤a∧0≤b∧a+b≤9223372036854775807)(h2:0≤c∧0≤e∧c+e≤9223372036854775807):C Tryz.prog 252 [.agg ⟨[.int .i64 c,.int .i64 e]⟩,.pointer (some ⟨m,0,none⟩)] w0 fun v w'=>v=.bool (Pl.overlap a b c e).isSome∧Ext No w0 w':=by
 refine C_o Tryz.func252 fun κ _ Je Jc hm=>?_
 refine au 2 ?_
 refine bT hm fun m1 w hm=>?_
 refine au 5 ?_
 refine Ja rfl rfl (Jm (s:=2) (vs:=[_,_]) rfl ag32.h (Qo ((hm.to.same _ (Lb.1 hb).1 id).trans hb)) rfl) ?_
 refine au 1 ?_
 refine cA rfl rfl rfl (Q7 a b c e _ h1 h2) hm fun w hm=>?_
 refine au 3 ?_
 refine aT hm fun m2 w hm=>?_
 refine st hm 0 fun w hm=>?_
 refine au 11 ?_
 exact ⟨rfl,hm.to⟩
theorem s_reads(c:Pl.Cm)(p:Option Addr)(cap:Nat)(q:Option Addr)(cq:Nat)(es:List (Int×Int))(w0:World)(hc:Pl.ccheck c=0)(hq:Rd w0 q (es.flatMap Q9))(hl:es.length≤1000000)(hok:∀ e∈es,0≤e.1∧0≤e.2∧e.1+e.2≤9223372036854775807):C Tryz.prog 213 [.agg ⟨cmV c p c.bs.length cap⟩,.slice q es.length cq] w0 fun v w'=>v=.bool (decide (c.k=1)&&es.any fun e=>(Pl.overlap (Pl.csrc c).1 (Pl.csrc c).2 e.1 e.2).isSome)∧Ext No w0 w':=by
 have hck:=Pl.Jl hc
 have hcs:0≤(Pl.csrc c).1∧0≤(Pl.csrc c).2∧(Pl.csrc c).1+(Pl.csrc c).2≤9223372036854775807:=by
  unfold Pl.csrc
  split <;> simp only <;> omega
 refine C_o Tryz.func213 fun κ _ Je Jc hm=>?_
 refine au 2 ?_
 refine bT hm fun m1 w hm=>?_
 refine au 6 ?_
 refine cA rfl rfl rfl (VI _ _ _ _) hm fun w hm=>?_
 refine au 3 ?_
 refine aT hm fun m2 w hm=>?_
 refine st hm 0 fun w hm=>?_
 refine au 8 ?_
 refine JK rfl rfl rfl (fun hc=>(y_func rfl rfl)) ?_
 refine J1 rfl rfl rfl (fun hc=>(J8 (gx hc rfl) (J8 (gx hc rfl) QL))) go251 (fun hc=>(conf_ext q cq es _ _ (fun e=>(Pl.overlap (Pl.csrc c).1 (Pl.csrc c).2 e.1 e.2).isSome) _ (hq.Jj hm.to) (by omega) go252 fun e w1 hm1 hx1=>s_reads1 (Pl.csrc c).1 (Pl.csrc c).2 e.1 e.2 m2 w1 ((hx1.same _ (Lb.1 (hm.get (k:=0) rfl)).1 id).trans (hm.get (k:=0) rfl)) hcs (hok e hm1))) trivial fun w hE hh=>?_
 replace hm:=hm.ext hE
 refine au 6 ?_
 exact ⟨rfl,hm.to⟩
end Go.Proofs.YtaehgpeenaomcaaGreat
namespace Go.Cx
open Go Go.Cx Go.Proofs.YtaehgpeenaomcaaGreat
theorem Mem.toMn{w w':World}{L:List (Nat×Blk)}(h:Mem w w' No L):Mem w w' (Mn (reals [])) L:=⟨h.os,h.tape,h.output,h.size,fun k hk _=>h.same k hk id,h.own,fun p hp hr=>(h.fresh p hp hr).elim (fun e=>e.elim) .inr,h.nodup⟩
end Go.Cx
namespace Go.Pl
open Go Go.Cx Go.Proofs.YtaehgpeenaomcaaGreat
def tgE(c:CmdV):Int×Int:=(c.to,Pl.clen c.cm)
end Go.Pl
namespace Go.Proofs.YtaehgpeenaomcaaGreat
open Go Go.Cx
theorem tgE_next{cs:List CmdV}{i:Nat}{c:CmdV}(h:cs[i]?=some c):((cs.take i).map Pl.tgE).flatMap Q9++[.int .i64 c.to,.int .i64 (Pl.clen c.cm)]=((cs.take (i+1)).map Pl.tgE).flatMap Q9:=by
 rw [LC,h,Lx,Lh]
 rfl
theorem tgE_len{cs:List CmdV}{i:Nat}(h:i≤cs.length):((cs.take i).map Pl.tgE).length=i:=by rw [Lj,Lg]; omega
theorem tgE_ok{cs:List CmdV}(h:∀ c∈cs,Pl.ccheck c.cm=0)(i:Nat):∀ e∈(cs.take i).map Pl.tgE,0≤e.1∧0≤e.2∧e.1+e.2≤9223372036854775807:=fun e he=>by
 obtain ⟨c,hc,rfl⟩:=Ln.1 he
 have h1:=Pl.Jl (h c (List.mem_of_mem_take hc))
 have h2:c.cm.to=c.to:=rfl
 simp only [Pl.tgE]
 omega
theorem s_steps1(q:Option Addr)(cq:Nat)(cs:List CmdV)(m1 yl:Nat)(I:List (Nat×Blk)→Nat→World→Prop)(F0:List (Nat×Blk))(w0:World)(hl:cs.length≤1000000)
 (hrow:∀ F i w,I F i w→w.heap[m1]?=some (Blk.row 24 [.slice q cs.length cq]).Jd∧Rd w q (cs.flatMap JM))
 (hown:∀ F i w,I F i w→Jr w F) (hstep:∀ Z Z' F i w w',I (Z++F) i w→Mem w w' (Mn (reals Z)) Z'→I (Z'++F) i w') (hperm:∀ F F' i w,I F i w→F.Perm F'→I F' i w)
 (hy:∀ p n cap g b F i w c,I ((g,b)::F) i w→cs[i]?=some c→Acc 32 2 p n cap (((cs.take i).map Pl.tgE).flatMap Q9) g b→Yw Tryz.prog yl [.int .i64 (i:Int),.slice p n cap] w fun v w'=>v=.bool true∧I ((g,b)::F) (i+1) w') (h0:I F0 0 w0):C Tryz.prog 250 [.func (.yield yl) #[] #[],.pointer (some ⟨m1,0,none⟩)] w0 fun v w'=>v=.tuple ⟨[]⟩∧∃ F,I F cs.length w':=by
 refine C_o Tryz.func250 fun κ _ Je Jc hm=>?_
 refine au 3 ?_
 replace hm:=hm.JP
 have ha_o:=Acc.nil 32 2 none 0
 refine au 4 ?_
 refine Ja rfl rfl (Jh rfl sc24.h (Qo ((hm.to.same _ (Lb.1 (hrow _ _ _ h0).1).1 id).trans (hrow _ _ _ h0).1)) rfl) ?_
 refine au 5 ?_
 refine Jg (ι:=Ow×List (Nat×Blk)×Nat) rfl (ks:=[0,6,7]) (.cons rfl (.cons rfl (.cons rfl .nil))) (fun x=>[(3,.slice x.1.p x.1.n x.1.cap),(8,.int .i64 (x.2.2:Int))]) (fun x w=>I ((x.1.g,x.1.b)::x.2.1) x.2.2 w∧Acc 32 2 x.1.p x.1.n x.1.cap (((cs.take x.2.2).map Pl.tgE).flatMap Q9) x.1.g x.1.b∧x.2.2≤cs.length∧x.1.n=x.2.2) (fun x=>cs.length-x.2.2) (⟨none,0,0,0,.gap⟩,F0,0) (⟨hstep [] [_] F0 0 _ _ h0 hm.toMn,ha_o,LL _,rfl⟩) ⟨rfl,rfl,trivial⟩ (fun x w hM=>?_)
 obtain ⟨hI,ha_o,hk,hn9⟩:=hM
 have hm:=Mem.start w
 obtain ⟨hR1,hR2⟩:=hrow _ _ _ hI
 refine au 6 ?_
 refine cd (fun hc0=>?_) fun hc0=>?_
 ·
  simp only [dT] at hc0
  obtain ⟨c,hi⟩:∃ y_,cs[x.2.2]?=some y_:=⟨_,La (by omega)⟩
  obtain ⟨qb,qo,rfl⟩:=hR2.atI Jf (by decide) hi
  refine au 8 ?_
  refine Ja rfl rfl (JU rfl ag60.h (hR2.Jj hm.to).nt Jf hi) ?_
  refine aT hm fun m2 w hm=>?_
  refine au 1 ?_
  refine st hm 0 fun w hm=>?_
  refine au 8 ?_
  have hI2:=hstep [] _ _ _ _ _ hI hm.toMn
  have hI3:=hperm _ _ _ _ hI2 (List.Perm.swap _ _ _)
  refine XM rfl rfl rfl rfl (hy _ _ _ _ _ _ _ _ c hI3 hi ha_o) fun v w hR=>?_
  refine ⟨trivial,?_⟩
  obtain ⟨rfl,hI4⟩:=hR
  have hm:=(Jr.left (A:=[_,_]) (hown _ _ _ hI4)).start
  refine au 9 ?_
  refine cA rfl rfl rfl (Vd c.cm c.d.p c.d.cap _) hm fun w hm=>?_
  refine Jb (l:=[_,_]) rfl rfl sl240.h z32.h rfl rfl rfl rfl rfl rfl rfl hm trivial fun m1 w hg_m1 hm hh=>?_
  refine Jy rfl rfl rfl rfl rfl rfl sl240.h sl240.h z32.h rfl rfl (Rd.JL (hm.get (k:=0) rfl)) rfl ha_o hm 1 rfl (by omega) (by omega) fun p_o cap_o g_o b_o w ha_o hm=>?_
  refine au 8 ?_
  refine next (⟨p_o,_,cap_o,g_o,b_o⟩,(m2,_)::x.2.1,x.2.2+1) (by simp only; omega) ⟨hstep [_,_] [_,_] x.2.1 _ _ _ hI4 (hm.pick [1,2] rfl),ha_o.to (tgE_next hi),by simp only; omega,by simp only; omega⟩ ⟨rfl,nx x.2.2,rfl,rfl,rfl,trivial⟩
 ·
  simp only [dF] at hc0
  have hke:x.2.2=cs.length:=by omega
  refine au 4 ?_
  refine toN (fin Jc rfl .nil .nil ?_)
  exact ⟨rfl,_,by rw [← hke]; exact hI⟩
theorem s_steps(q:Option Addr)(n cq:Nat)(w0:World):C Tryz.prog 212 [.slice q n cq] w0 fun v w'=>∃ m1,v=.func (.func 250) #[] ⟨[.pointer (some ⟨m1,0,none⟩)]⟩∧Mem w0 w' No [(m1,.row 24 [.slice q n cq])]:=by
 refine C_o Tryz.func212 fun κ _ Je Jc hm=>?_
 refine au 2 ?_
 refine bT hm fun m1 w hm=>?_
 refine au 11 ?_
 exact ⟨_,rfl,hm⟩
theorem s_prefix(q:Option Addr)(cq:Nat)(cs:List CmdV)(w0:World)(hq:Rd w0 q (cs.flatMap JM))(hl:cs.length≤1000000)(hck:∀ c∈cs,Pl.ccheck c.cm=0)(hsf:∀ i c,cs[i]?=some c→(decide (c.k=1)&&((cs.take i).map Pl.tgE).any fun e=>(Pl.overlap (Pl.csrc c.cm).1 (Pl.csrc c.cm).2 e.1 e.2).isSome)=false):C Tryz.prog 171 [.slice q cs.length cq] w0 fun v w'=>v=.int .i64 cs.length∧Ext No w0 w':=by
 refine Zt Tryz.func171 rfl rfl rfl fun κ _ Je Jc=>?_
 have hm:=Mem.start w0
 refine au 2 ?_
 refine bT hm fun m1 w hm=>?_
 refine aT hm fun m2 w hm=>?_
 refine au 6 ?_
 refine cT rfl rfl rfl (s_steps q _ cq _) fun v w hR=>?_
 obtain ⟨qa,rfl,hmc⟩:=hR
 replace hm:=hm.Jt hmc
 refine au 3 ?_
 refine VJ rfl rfl go250 hm fun a_ fn r0 l w LB hLB hfr hl_ hs_ hm=>?_
 refine C.mono (s_steps1 q cq cs qa l (fun F i w=>Mem w0 w No ((l,LB .ready none)::(r0,dblk (some []))::(qa,.row 24 [.slice q cs.length cq])::(m2,.row 3 [.int .i64 0])::(m1,.row 24 [.slice q cs.length cq])::F)) [] _ hl (fun F i w hm=>⟨hm.get (k:=2) rfl,hq.Jj hm.to⟩) (fun F i w hm=>Jr.right (A:=[_,_,_,_,_]) hm.Jz)
  (fun Z Z' F i w w' hm hc=>Mem.callM (A:=[_,_,_,_,_]) hm hc) (fun F F' i w hm hp=>hm.perm (.cons _ (.cons _ (.cons _ (.cons _ (.cons _ hp))))))
  (fun p n cap g b F i w c hm hi ha=>?_) hm) (fun v w hR=>?_)
 ·
  subst hLB
  obtain ⟨qb2,qo,rfl⟩:=hq.atI Jf (by decide) hi
  have hil:=(Le.1 hi).1
  obtain rfl:=ha.QB QM (by decide)
  have hnl:=tgE_len (cs:=cs) (i:=i) (by omega)
  refine Yw.of hfr (hm.get (k:=0) rfl) rfl rfl ?_
  refine au 8 ?_
  refine Xf hm 0 rfl fun w hm=>?_
  refine au 6 ?_
  refine Ja rfl rfl (JU rfl ag60.h (hq.Jj hm.to).nt Jf hi) ?_
  refine au 1 ?_
  refine cA rfl rfl rfl (C.as (v:=.bool false) (s_reads c.cm c.d.p c.d.cap p cap _ _ (hck c (Ld hi)) (ha.rd hm 5 rfl) (by omega) (tgE_ok hck i)) (LM Value.bool (hsf i c hi))) hm fun w hm=>?_
  refine au 5 ?_
  refine g_end hm 0 rfl fun w hm=>?_
  exact ⟨rfl,(hm.Jp [0,1,2,3,4,5] 6 rfl)⟩
 ·
  subst hLB
  obtain ⟨rfl,F,hm⟩:=hR
  refine ⟨.ready,none,nofun,hm.get (k:=0) rfl,fun w4 hw4=>?_⟩
  replace hm:=Xw hm hw4
  refine au 6 ?_
  refine st hm 2 fun w hm=>?_
  refine au 3 ?_
  refine toR (fin1 Je rfl hm 0 rfl .one fun w hm=>⟨(.cell rfl (JN sc3.h (hm.get (k:=2) rfl) rfl) .nil),?_⟩)
  exact ⟨rfl,hm.to⟩
theorem s_check(q:Option Addr)(cq:Nat)(cs:List CmdV)(w0:World)(hq:Rd w0 q (cs.flatMap JM))(hl:cs.length≤1000000)(hck:∀ c∈cs,Pl.ccheck c.cm=0)(hsf:∀ i c,cs[i]?=some c→(decide (c.k=1)&&((cs.take i).map Pl.tgE).any fun e=>(Pl.overlap (Pl.csrc c.cm).1 (Pl.csrc c.cm).2 e.1 e.2).isSome)=false):C Tryz.prog 142 [.slice q cs.length cq] w0 fun v w'=>v=.agg ⟨[.int .i64 0,.int .i64 0]⟩∧Ext No w0 w':=by
 refine C_o Tryz.func142 fun κ _ Je Jc hm=>?_
 refine au 2 ?_
 refine aT hm fun m1 w hm=>?_
 refine au 6 ?_
 refine cA rfl rfl rfl (s_prefix q cq cs _ (hq.Jj hm.to) hl hck hsf) hm fun w hm=>?_
 refine au 8 ?_
 refine Ja rfl rfl (JA (c:=false) (VO rfl rfl) (LN (Int.lt_irrefl _))) ?_
 refine au 8 ?_
 refine st hm 0 fun w hm=>?_
 refine au 4 ?_
 exact ⟨rfl,hm.to⟩
end Go.Proofs.YtaehgpeenaomcaaGreat
namespace Go.Pl
open Go Go.Cx Go.Proofs.YtaehgpeenaomcaaGreat
def okN(x:Int):Prop:=0≤x∧x≤4611686018427387903
end Go.Pl
namespace Go.Proofs.YtaehgpeenaomcaaGreat
open Go Go.Cx
theorem QK(n:Int)(w0:World)(h:0≤n∧n≤9223372036854775807):C Tryz.prog 174 [.int .i64 n] w0 fun v w'=>v=.agg ⟨[.int .u64 n,.int .i64 8]⟩∧Ext No w0 w':=by
 refine C_o Tryz.func174 fun κ _ Je Jc hm=>?_
 refine au 2 ?_
 refine aT hm fun m1 w hm=>?_
 refine au 5 ?_
 refine Ja rfl rfl (JX rfl is3 it55 (u64w (by omega) (by omega))) ?_
 refine au 1 ?_
 refine st hm 0 fun w hm=>?_
 refine au 4 ?_
 exact ⟨rfl,hm.to⟩
theorem f_within(p:Option Addr)(cap:Nat)(xs:List Int)(w0:World)(hx:Rd w0 p (xs.flatMap encI))(hl:xs.length≤1000000)(hok:∀ x∈xs,Pl.okN x):C Tryz.prog 214 [.slice p xs.length cap] w0 fun v w'=>v=.bool true∧Ext No w0 w':=by
 refine C_o Tryz.func214 fun κ _ Je Jc hm=>?_
 refine au 14 ?_
 refine Jg (ι:=Nat) rfl (ks:=[5,6]) (.cons rfl (.cons rfl .nil)) (fun k=>[(7,.int .i64 (k:Int))]) (fun k w=>Mem w0 w No []∧k≤xs.length) (fun k=>xs.length-k) 0 (⟨(hm.pick [] rfl),LL _⟩) ⟨rfl,trivial⟩ (fun k w hM=>?_)
 obtain ⟨hm,hk⟩:=hM
 refine au 6 ?_
 refine cd (fun hc0=>?_) fun hc0=>?_
 ·
  simp only [dT] at hc0
  obtain ⟨x,hi⟩:∃ y_,xs[k]?=some y_:=⟨_,La (by omega)⟩
  obtain ⟨qb,qo,rfl⟩:=hx.atI Jq (by decide) hi
  have hon:=hok x (Ld hi)
  unfold Pl.okN at hon
  refine au 7 ?_
  refine Ja rfl rfl (J3 rfl sc3.h (hx.Jj hm.to).nt Jq hi rfl) ?_
  refine au 7 ?_
  refine cA rfl rfl rfl (C.as (v:=.bool true) (Qw 0 x _ (by simp only [Pl.I64]; omega) (by simp only [Pl.I64]; omega)) (LM Value.bool (Pl.VU.2 hon))) hm fun w hm=>?_
  refine au 11 ?_
  refine next (k+1) (by omega) ⟨hm,by omega⟩ ⟨nx k,rfl,rfl,trivial⟩
 ·
  refine au 12 ?_
  exact ⟨rfl,hm.to⟩
theorem fm_check(oo nn:Int)(H:Nat→UInt8)(q:Option Addr)(cq:Nat)(cs:List CmdV)(w0:World)(hq:Rd w0 q (cs.flatMap JM))(hl:cs.length≤1000000)(ho:Pl.okN oo)(hn:Pl.okN nn)(hck:∀ c∈cs,Pl.ccheck c.cm=0):C Tryz.prog 172 [.agg ⟨dlV oo nn H q cs.length cq⟩] w0 fun v w'=>v=.int .i64 0∧Ext No w0 w':=by
 refine C_o Tryz.func172 fun κ _ Je Jc hm=>?_
 refine au 2 ?_
 refine bT hm fun m1 w hm=>?_
 refine au 9 ?_
 refine Jb (l:=[_,_]) rfl rfl sl134.h z3.h rfl rfl rfl rfl rfl rfl rfl hm trivial fun m2 w hg_m2 hm hh=>?_
 refine cA rfl rfl rfl (f_within _ _ [oo,nn] _ (Rd.JL (hm.get (k:=0) rfl)) (by simp) (by intro x hx; simp only [LR,Kd,or_false] at hx; rcases hx with rfl | rfl <;> assumption)) hm fun w hm=>?_
 refine au 13 ?_
 refine Jg (ι:=Nat) rfl (ks:=[13,14]) (.cons rfl (.cons rfl .nil)) (fun k=>[(15,.int .i64 (k:Int)),(3,.bool true)]) (fun k w=>Mem w0 w No [(m1,.row 26 (dlV oo nn H q cs.length cq))]∧k≤cs.length) (fun k=>cs.length-k) 0 (⟨(hm.pick [1] rfl),LL _⟩) ⟨rfl,rfl,trivial⟩ (fun k w hM=>?_)
 obtain ⟨hm,hk⟩:=hM
 refine au 6 ?_
 refine cd (fun hc0=>?_) fun hc0=>?_
 ·
  simp only [dT] at hc0
  obtain ⟨c,hi⟩:∃ y_,cs[k]?=some y_:=⟨_,La (by omega)⟩
  obtain ⟨qb,qo,rfl⟩:=hq.atI Jf (by decide) hi
  have hcc:=Pl.Jl (hck c (Ld hi))
  have k1:c.cm.k=c.k:=rfl
  have k2:c.cm.to=c.to:=rfl
  have k3:c.cm.fr=c.fr:=rfl
  have k4:c.cm.ln=c.ln:=rfl
  have k5:c.cm.bs=c.d.bs:=rfl
  rw [k1,k2,k3,k4,k5] at hcc
  refine au 7 ?_
  refine Ja rfl rfl (JU rfl ag60.h (hq.Jj hm.to).nt Jf hi) ?_
  refine aT hm fun m3 w hm=>?_
  refine st hm 0 fun w hm=>?_
  refine au 15 ?_
  refine cd (fun hc1=>?_) fun hc1=>?_
  ·
   simp only [dT] at hc1
   have hbl:c.d.bs.length=0:=by rcases hcc.1 with h | h; exact LM List.length h.2.2.1; omega
   refine au 9 ?_
   refine Jb (l:=[_,_,_]) rfl rfl sl134.h z3.h rfl rfl rfl rfl rfl rfl rfl hm trivial fun m4 w hg_m4 hm hh=>?_
   refine cA rfl rfl rfl (f_within _ _ [c.to,c.fr,c.ln] _ (Rd.JL (hm.get (k:=0) rfl)) (by simp) (by intro x hx; simp only [LR,Kd,or_false] at hx; unfold Pl.okN; rcases hx with rfl | rfl | rfl <;> omega)) hm fun w hm=>?_
   refine au 5 ?_
   refine Ja rfl rfl (JA (c:=true) (V3 rfl rfl) (LQ (by omega))) ?_
   refine au 10 ?_
   refine next (k+1) (by omega) ⟨(hm.pick [2] rfl),by omega⟩ ⟨nx k,rfl,rfl,rfl,trivial⟩
  ·
   simp only [dF] at hc1
   refine au 2 ?_
   refine Ja rfl rfl (JA (c:=true) (V3 rfl rfl) (LQ (by omega))) ?_
   refine au 9 ?_
   refine Jb (l:=[_]) rfl rfl sl134.h z3.h rfl rfl rfl rfl rfl rfl rfl hm trivial fun m4 w hg_m4 hm hh=>?_
   refine cA rfl rfl rfl (f_within _ _ [c.to] _ (Rd.JL (hm.get (k:=0) rfl)) (by simp) (by intro x hx; rw [Lf.1 hx]; unfold Pl.okN; omega)) hm fun w hm=>?_
   refine au 4 ?_
   refine Ja rfl rfl (JA (c:=true) (V3 rfl rfl) (LQ (by omega))) ?_
   refine au 4 ?_
   refine Ja rfl rfl (JA (c:=true) (V3 rfl rfl) (LQ (by omega))) ?_
   refine au 10 ?_
   refine next (k+1) (by omega) ⟨(hm.pick [2] rfl),by omega⟩ ⟨nx k,rfl,rfl,rfl,trivial⟩
 ·
  refine au 22 ?_
  exact ⟨rfl,hm.to⟩
end Go.Proofs.YtaehgpeenaomcaaGreat
namespace Go.Pl
open Go Go.Cx Go.Proofs.YtaehgpeenaomcaaGreat
def hl(H:Nat→UInt8)(o:Nat):List UInt8:=(List.range 32).map fun i=>H (o+i)
def fmg:List UInt8:=[71,82,70,84]
def fhd(oo nn:Int):List UInt8:=Pl.fmg++Pl.Vl [(1,1),(oo,8),(nn,8)]
def fpre(oo nn:Int)(H:Nat→UInt8)(n:Nat):List UInt8:=Pl.fhd oo nn++Pl.hl H 0++Pl.hl H 32++Pl.Vl [((n:Int),4)]
def cfl(c:Pl.Cm):List (Int×Int):=[(c.k,1),(c.to,8)]++(if c.k=1 then [(c.fr,8),(c.ln,8)] else [((c.bs.length:Int),8)])
def cenc(c:Pl.Cm):List UInt8:=Pl.Vl (Pl.cfl c)++(if c.k=1 then [] else c.bs)
def fenc(oo nn:Int)(H:Nat→UInt8)(cs:List Pl.Cm):List UInt8:=Pl.fpre oo nn H cs.length++cs.flatMap Pl.cenc
end Go.Pl
namespace Go.Proofs.YtaehgpeenaomcaaGreat
open Go Go.Cx
theorem Xb{v:Int}(h:v≤4611686018427387903):Pl.fits v 8=true:=by
 unfold Pl.fits
 rw [LO]
 exact ⟨by decide,by decide,by have:=Pl.pow8; simp only [Int.reduceToNat]; omega⟩
theorem fit1{v:Int}(h:v≤2):Pl.fits v 1=true:=by
 unfold Pl.fits
 rw [LO]
 exact ⟨by decide,by decide,by simp only [Int.reduceToNat]; omega⟩
theorem fit4{v:Int}(h:v≤1000):Pl.fits v 4=true:=by
 unfold Pl.fits
 rw [LO]
 exact ⟨by decide,by decide,by simp only [Int.reduceToNat]; omega⟩
theorem Y7:∀ fs:List (Int×Int),(∀ f∈fs,f.2≤8)→(Pl.Vl fs).length≤fs.length*8
 | [],_=>by simp [Pl.Vl]
 | f::r,h=>by
  have h1:=Y7 r fun x hx=>h x (LX _ hx)
  have h2:=h f (Lo ..)
  have h3:Pl.Vl (f::r)=Pl.be f.1 f.2.toNat++Pl.Vl r:=by simp [Pl.Vl]
  rw [h3,Lc,Pl.YY,Li]
  omega
theorem cfl_le(c:Pl.Cm):(Pl.Vl (Pl.cfl c)).length≤32:=by
 have h1:=Y7 (Pl.cfl c) (by unfold Pl.cfl; split <;> simp)
 have h2:(Pl.cfl c).length≤4:=by unfold Pl.cfl; split <;> simp
 omega
theorem fpre_le(oo nn:Int)(H:Nat→UInt8)(n:Nat):(Pl.fpre oo nn H n).length≤200:=by
 have h1:=Y7 [(1,1),(oo,8),(nn,8)] (by simp)
 have h2:=Y7 [((n:Int),4)] (by simp)
 simp only [Li,LA] at h1 h2
 simp only [Pl.fpre,Pl.fhd,Pl.fmg,Pl.hl,Lc,Lj,List.length_range,Li,LA]
 omega
theorem cenc_le{cs:List Pl.Cm}(h:∀ c∈cs,c.bs.length≤1000000):(cs.flatMap Pl.cenc).length≤cs.length*1000100:=by
 induction cs with
 | nil=>simp
 | cons c r ih=>
  have h1:=ih fun x hx=>h x (LX _ hx)
  have h2:=cfl_le c
  have h3:=h c (Lo ..)
  have h4:(Pl.cenc c).length≤1000100:=by unfold Pl.cenc; rw [Lc]; split <;> (try simp only [LA]) <;> omega
  rw [Lk,Lc,Li]
  omega
theorem rd_mid{w:World}{g:Nat}{e:TypeId}{l:List Value}(h:w.heap[g]?=some (Blk.row e l).Jd)(o n:Nat):Rd w (some ⟨g,o,none⟩) ((l.drop o).take n):=Rd.row h fun j v hj=>by
 rw [LF] at hj
 split at hj
 · rwa [Kc] at hj
 · cases hj
theorem hl_lo(oo nn:Int)(H:Nat→UInt8)(p:Option Addr)(n cap:Nat):((dlV oo nn H p n cap).drop 2).take 32=(Pl.hl H 0).flatMap Jk:=by kernel_rfl
theorem hl_hi(oo nn:Int)(H:Nat→UInt8)(p:Option Addr)(n cap:Nat):((dlV oo nn H p n cap).drop 34).take 32=(Pl.hl H 32).flatMap Jk:=by kernel_rfl
theorem hl_c(H:Nat→UInt8)(o:Nat):((Pl.hl H o).flatMap Jk).length=32*1:=by
 rw [JW JG,Pl.hl,Lj,List.length_range]
theorem cenc_next{cs:List CmdV}{k:Nat}{c:CmdV}(h:cs[k]?=some c)(P:List UInt8){x:List UInt8}(hx:Pl.cenc c.cm=x):P++((cs.take (k+1)).map CmdV.cm).flatMap Pl.cenc=P++((cs.take k).map CmdV.cm).flatMap Pl.cenc++x:=by
 rw [← hx,LC,h,Lx,Lh,Lp]
 simp
theorem XU(p:Option Addr)(cap:Nat)(bs:List UInt8)(q:Option Addr)(cq:Nat)(fs:List (Int×Int))(w0:World)(hx:Rd w0 p (bs.flatMap Jk))(hy:Rd w0 q (fs.flatMap encF))(hlen:bs.length≤1099511627776)(hl:fs.length≤1099511627776)(hok:∀ f∈fs,Pl.okF f)(hfit:Pl.V6 fs=true):C Tryz.prog 173 [.slice p bs.length cap,.slice q fs.length cq] w0 fun v w'=>∃ p n cap g b,v=.tuple ⟨[.slice p n cap,.bool true]⟩∧Acc 5 1 p n cap ((bs++Pl.Vl fs).flatMap Jk) g b∧Mem w0 w' No [(g,b)]:=
 (w_append p cap bs q cq fs w0 hx hy hlen hl hok).mono fun v w' h=>by
  obtain ⟨p,n,cap,g,b,h1,h2,h3⟩:=h
  unfold Pl.wout at h2
  rw [hfit] at h1 h2
  exact ⟨p,n,cap,g,b,h1,h2,h3⟩
theorem f_encode(oo nn:Int)(H:Nat→UInt8)(q:Option Addr)(cq:Nat)(cs:List CmdV)(w0:World)(hq:Rd w0 q (cs.flatMap JM))(hl:cs.length≤1000)(hok:∀ c∈cs,Q1 w0 c)(hbl:∀ c∈cs,c.d.bs.length≤1000000)(ho:Pl.okN oo)(hn:Pl.okN nn)(hck:∀ c∈cs,Pl.ccheck c.cm=0):C Tryz.prog 143 [.agg ⟨dlV oo nn H q cs.length cq⟩] w0 fun v w'=>∃ p n cap g b,v=.tuple ⟨[.slice p n cap,.int .i64 0]⟩∧Acc 5 1 p n cap ((Pl.fenc oo nn H (cs.map CmdV.cm)).flatMap Jk) g b∧Mem w0 w' No [(g,b)]:=by
 have ho9:=ho
 have hn99:=hn
 unfold Pl.okN at ho hn
 have hl1:(Pl.fmg++Pl.Vl [(1,1),(oo,8),(nn,8)]).length≤200:=by have:=fpre_le oo nn H 0; simp only [Pl.fpre,Pl.fhd,Lc] at this ⊢; omega
 refine C_o Tryz.func143 fun κ _ Je Jc hm=>?_
 refine au 2 ?_
 refine bT hm fun m1 w hm=>?_
 refine au 7 ?_
 refine Ja rfl rfl (Jm (s:=67) (vs:=dlV oo nn H _ cs.length cq) rfl ag26.h (hm.nt 0 rfl) rfl) ?_
 refine cA rfl rfl rfl (fm_check oo nn H q cq cs _ (hq.Jj hm.to) (by omega) ho9 hn99 hck) hm fun w hm=>?_
 refine au 6 ?_
 refine Ja rfl rfl (JA (c:=false) (XD rfl rfl) (by decide)) ?_
 refine au 5 ?_
 refine Xc (ι:=Ow) rfl (ks:=[1,2,3]) (.cons rfl (.cons rfl (.cons rfl .nil))) (fun y=>[(5,.slice y.p y.n y.cap)]) (fun y w=>Mem w0 w No [(y.g,y.b),(m1,.row 26 (dlV oo nn H q cs.length cq))]∧Acc 5 1 y.p y.n y.cap ((Pl.fmg++Pl.Vl [(1,1),(oo,8),(nn,8)]).flatMap Jk) y.g y.b) ?_ (fun y w hM=>?_)
 ·
  refine JS (.pure 2 (.pure 3 (.pure 4 (.pure 6 (.pure 7 (.act2 0 (.act2 1 (.act 5 (.act 8 (.act 9 (.act 10 (.pure 11 (.pure 12 (.pure 13 (.pure 14 (.pure 15 .done))))))))) 5 (.act2 1 (.act 8 (.act 9 (.act 10 (.pure 11 (.pure 12 (.pure 13 (.pure 14 (.pure 15 .done)))))))) 8 (.act2 1 (.act 9 (.act 10 (.pure 11 (.pure 12 (.pure 13 (.pure 14 (.pure 15 .done))))))) 9 (.act 1 (.act 10 (.pure 11 (.pure 12 (.pure 13 (.pure 14 (.pure 15 .done)))))))))) 5 (.act2 0 (.act2 1 (.act 8 (.act 9 (.act 10 (.pure 11 (.pure 12 (.pure 13 (.pure 14 (.pure 15 .done)))))))) 8 (.act2 1 (.act 9 (.act 10 (.pure 11 (.pure 12 (.pure 13 (.pure 14 (.pure 15 .done))))))) 9 (.act 1 (.act 10 (.pure 11 (.pure 12 (.pure 13 (.pure 14 (.pure 15 .done))))))))) 8 (.act2 0 (.act2 1 (.act 9 (.act 10 (.pure 11 (.pure 12 (.pure 13 (.pure 14 (.pure 15 .done))))))) 9 (.act 1 (.act 10 (.pure 11 (.pure 12 (.pure 13 (.pure 14 (.pure 15 .done)))))))) 9 (.act 0 (.act 1 (.act 10 (.pure 11 (.pure 12 (.pure 13 (.pure 14 (.pure 15 .done)))))))))))))))) No mix (by kernel_rfl) hm fun w hw hm0 hh=>?_
  have hm:=hm0
  refine au 5 ?_
  refine QN ?_ ?_
  ·
   refine Jb (l:=[_,_,_,_]) rfl rfl sl22.h z5.h rfl rfl rfl rfl rfl rfl rfl hm hh fun mg w hg_mg hm hh=>?_
   refine QN ?_ ?_
   ·
    refine XT rfl rfl rfl cb22 hm 0 rfl hh hg_mg fun w hm hh=>?_
    refine cB rfl rfl rfl (QK oo _ (by omega)) hm hh fun w hm hh=>?_
    refine cB rfl rfl rfl (QK nn _ (by omega)) hm hh fun w hm hh=>?_
    refine Jb (l:=[_,_,_,_,_,_]) rfl rfl sl267.h z265.h rfl rfl rfl rfl rfl rfl rfl hm hh fun fd w hg_fd hm hh=>?_
    refine ca rfl rfl rfl (XU _ _ Pl.fmg _ _ [(1,1),(oo,8),(nn,8)] _ (Rd.mkd (hm.get (k:=1) rfl)) (Rd.JL (hm.get (k:=0) rfl)) (by decide) (by simp) (by simp only [LR,Kd,or_false,forall_eq_or_imp,forall_eq,Pl.okF,Pl.I64]; omega) (by simp only [Pl.V6,List.all_cons,List.all_nil,Xb ho.2,Xb hn.2,fit1 (show (1:Int)≤2 by decide),Bool.and_self])) fun v w hR=>?_
    obtain ⟨p_s,n_s,cap_s,g_s,b_s,rfl,ha_s,hmc⟩:=hR
    refine ⟨hh.ext hmc.to,?_⟩
    replace hh:=hh.ext hmc.to
    replace hm:=hm.Jt hmc
    obtain rfl:=ha_s.J0
    refine au 6 ?_
    exact Qt ⟨p_s,_,cap_s,g_s,b_s⟩ ⟨(hm.pick [0,3] rfl),ha_s⟩ ⟨rfl,rfl,rfl,rfl,trivial⟩
   ·
    refine cB rfl rfl rfl (QK oo _ (by omega)) hm hh fun w hm hh=>?_
    refine QN ?_ ?_
    ·
     refine XT rfl rfl rfl cb22 hm 0 rfl hh hg_mg fun w hm hh=>?_
     refine cB rfl rfl rfl (QK nn _ (by omega)) hm hh fun w hm hh=>?_
     refine Jb (l:=[_,_,_,_,_,_]) rfl rfl sl267.h z265.h rfl rfl rfl rfl rfl rfl rfl hm hh fun fd w hg_fd hm hh=>?_
     refine ca rfl rfl rfl (XU _ _ Pl.fmg _ _ [(1,1),(oo,8),(nn,8)] _ (Rd.mkd (hm.get (k:=1) rfl)) (Rd.JL (hm.get (k:=0) rfl)) (by decide) (by simp) (by simp only [LR,Kd,or_false,forall_eq_or_imp,forall_eq,Pl.okF,Pl.I64]; omega) (by simp only [Pl.V6,List.all_cons,List.all_nil,Xb ho.2,Xb hn.2,fit1 (show (1:Int)≤2 by decide),Bool.and_self])) fun v w hR=>?_
     obtain ⟨p_s,n_s,cap_s,g_s,b_s,rfl,ha_s,hmc⟩:=hR
     refine ⟨hh.ext hmc.to,?_⟩
     replace hh:=hh.ext hmc.to
     replace hm:=hm.Jt hmc
     obtain rfl:=ha_s.J0
     refine au 6 ?_
     exact Qt ⟨p_s,_,cap_s,g_s,b_s⟩ ⟨(hm.pick [0,3] rfl),ha_s⟩ ⟨rfl,rfl,rfl,rfl,trivial⟩
    ·
     refine cB rfl rfl rfl (QK nn _ (by omega)) hm hh fun w hm hh=>?_
     refine QN ?_ ?_
     ·
      refine XT rfl rfl rfl cb22 hm 0 rfl hh hg_mg fun w hm hh=>?_
      refine Jb (l:=[_,_,_,_,_,_]) rfl rfl sl267.h z265.h rfl rfl rfl rfl rfl rfl rfl hm hh fun fd w hg_fd hm hh=>?_
      refine ca rfl rfl rfl (XU _ _ Pl.fmg _ _ [(1,1),(oo,8),(nn,8)] _ (Rd.mkd (hm.get (k:=1) rfl)) (Rd.JL (hm.get (k:=0) rfl)) (by decide) (by simp) (by simp only [LR,Kd,or_false,forall_eq_or_imp,forall_eq,Pl.okF,Pl.I64]; omega) (by simp only [Pl.V6,List.all_cons,List.all_nil,Xb ho.2,Xb hn.2,fit1 (show (1:Int)≤2 by decide),Bool.and_self])) fun v w hR=>?_
      obtain ⟨p_s,n_s,cap_s,g_s,b_s,rfl,ha_s,hmc⟩:=hR
      refine ⟨hh.ext hmc.to,?_⟩
      replace hh:=hh.ext hmc.to
      replace hm:=hm.Jt hmc
      obtain rfl:=ha_s.J0
      refine au 6 ?_
      exact Qt ⟨p_s,_,cap_s,g_s,b_s⟩ ⟨(hm.pick [0,3] rfl),ha_s⟩ ⟨rfl,rfl,rfl,rfl,trivial⟩
     ·
      refine Jb (l:=[_,_,_,_,_,_]) rfl rfl sl267.h z265.h rfl rfl rfl rfl rfl rfl rfl hm hh fun fd w hg_fd hm hh=>?_
      refine XT rfl rfl rfl cb22 hm 1 rfl hh hg_mg fun w hm hh=>?_
      refine ca rfl rfl rfl (XU _ _ Pl.fmg _ _ [(1,1),(oo,8),(nn,8)] _ (Rd.mkd (hm.get (k:=1) rfl)) (Rd.JL (hm.get (k:=0) rfl)) (by decide) (by simp) (by simp only [LR,Kd,or_false,forall_eq_or_imp,forall_eq,Pl.okF,Pl.I64]; omega) (by simp only [Pl.V6,List.all_cons,List.all_nil,Xb ho.2,Xb hn.2,fit1 (show (1:Int)≤2 by decide),Bool.and_self])) fun v w hR=>?_
      obtain ⟨p_s,n_s,cap_s,g_s,b_s,rfl,ha_s,hmc⟩:=hR
      refine ⟨hh.ext hmc.to,?_⟩
      replace hh:=hh.ext hmc.to
      replace hm:=hm.Jt hmc
      obtain rfl:=ha_s.J0
      refine au 6 ?_
      exact Qt ⟨p_s,_,cap_s,g_s,b_s⟩ ⟨(hm.pick [0,3] rfl),ha_s⟩ ⟨rfl,rfl,rfl,rfl,trivial⟩
  ·
   refine cB rfl rfl rfl (QK oo _ (by omega)) hm hh fun w hm hh=>?_
   refine QN ?_ ?_
   ·
    refine Jb (l:=[_,_,_,_]) rfl rfl sl22.h z5.h rfl rfl rfl rfl rfl rfl rfl hm hh fun mg w hg_mg hm hh=>?_
    refine QN ?_ ?_
    ·
     refine XT rfl rfl rfl cb22 hm 0 rfl hh hg_mg fun w hm hh=>?_
     refine cB rfl rfl rfl (QK nn _ (by omega)) hm hh fun w hm hh=>?_
     refine Jb (l:=[_,_,_,_,_,_]) rfl rfl sl267.h z265.h rfl rfl rfl rfl rfl rfl rfl hm hh fun fd w hg_fd hm hh=>?_
     refine ca rfl rfl rfl (XU _ _ Pl.fmg _ _ [(1,1),(oo,8),(nn,8)] _ (Rd.mkd (hm.get (k:=1) rfl)) (Rd.JL (hm.get (k:=0) rfl)) (by decide) (by simp) (by simp only [LR,Kd,or_false,forall_eq_or_imp,forall_eq,Pl.okF,Pl.I64]; omega) (by simp only [Pl.V6,List.all_cons,List.all_nil,Xb ho.2,Xb hn.2,fit1 (show (1:Int)≤2 by decide),Bool.and_self])) fun v w hR=>?_
     obtain ⟨p_s,n_s,cap_s,g_s,b_s,rfl,ha_s,hmc⟩:=hR
     refine ⟨hh.ext hmc.to,?_⟩
     replace hh:=hh.ext hmc.to
     replace hm:=hm.Jt hmc
     obtain rfl:=ha_s.J0
     refine au 6 ?_
     exact Qt ⟨p_s,_,cap_s,g_s,b_s⟩ ⟨(hm.pick [0,3] rfl),ha_s⟩ ⟨rfl,rfl,rfl,rfl,trivial⟩
    ·
     refine cB rfl rfl rfl (QK nn _ (by omega)) hm hh fun w hm hh=>?_
     refine QN ?_ ?_
     ·
      refine XT rfl rfl rfl cb22 hm 0 rfl hh hg_mg fun w hm hh=>?_
      refine Jb (l:=[_,_,_,_,_,_]) rfl rfl sl267.h z265.h rfl rfl rfl rfl rfl rfl rfl hm hh fun fd w hg_fd hm hh=>?_
      refine ca rfl rfl rfl (XU _ _ Pl.fmg _ _ [(1,1),(oo,8),(nn,8)] _ (Rd.mkd (hm.get (k:=1) rfl)) (Rd.JL (hm.get (k:=0) rfl)) (by decide) (by simp) (by simp only [LR,Kd,or_false,forall_eq_or_imp,forall_eq,Pl.okF,Pl.I64]; omega) (by simp only [Pl.V6,List.all_cons,List.all_nil,Xb ho.2,Xb hn.2,fit1 (show (1:Int)≤2 by decide),Bool.and_self])) fun v w hR=>?_
      obtain ⟨p_s,n_s,cap_s,g_s,b_s,rfl,ha_s,hmc⟩:=hR
      refine ⟨hh.ext hmc.to,?_⟩
      replace hh:=hh.ext hmc.to
      replace hm:=hm.Jt hmc
      obtain rfl:=ha_s.J0
      refine au 6 ?_
      exact Qt ⟨p_s,_,cap_s,g_s,b_s⟩ ⟨(hm.pick [0,3] rfl),ha_s⟩ ⟨rfl,rfl,rfl,rfl,trivial⟩
     ·
      refine Jb (l:=[_,_,_,_,_,_]) rfl rfl sl267.h z265.h rfl rfl rfl rfl rfl rfl rfl hm hh fun fd w hg_fd hm hh=>?_
      refine XT rfl rfl rfl cb22 hm 1 rfl hh hg_mg fun w hm hh=>?_
      refine ca rfl rfl rfl (XU _ _ Pl.fmg _ _ [(1,1),(oo,8),(nn,8)] _ (Rd.mkd (hm.get (k:=1) rfl)) (Rd.JL (hm.get (k:=0) rfl)) (by decide) (by simp) (by simp only [LR,Kd,or_false,forall_eq_or_imp,forall_eq,Pl.okF,Pl.I64]; omega) (by simp only [Pl.V6,List.all_cons,List.all_nil,Xb ho.2,Xb hn.2,fit1 (show (1:Int)≤2 by decide),Bool.and_self])) fun v w hR=>?_
      obtain ⟨p_s,n_s,cap_s,g_s,b_s,rfl,ha_s,hmc⟩:=hR
      refine ⟨hh.ext hmc.to,?_⟩
      replace hh:=hh.ext hmc.to
      replace hm:=hm.Jt hmc
      obtain rfl:=ha_s.J0
      refine au 6 ?_
      exact Qt ⟨p_s,_,cap_s,g_s,b_s⟩ ⟨(hm.pick [0,3] rfl),ha_s⟩ ⟨rfl,rfl,rfl,rfl,trivial⟩
   ·
    refine cB rfl rfl rfl (QK nn _ (by omega)) hm hh fun w hm hh=>?_
    refine QN ?_ ?_
    ·
     refine Jb (l:=[_,_,_,_]) rfl rfl sl22.h z5.h rfl rfl rfl rfl rfl rfl rfl hm hh fun mg w hg_mg hm hh=>?_
     refine QN ?_ ?_
     ·
      refine XT rfl rfl rfl cb22 hm 0 rfl hh hg_mg fun w hm hh=>?_
      refine Jb (l:=[_,_,_,_,_,_]) rfl rfl sl267.h z265.h rfl rfl rfl rfl rfl rfl rfl hm hh fun fd w hg_fd hm hh=>?_
      refine ca rfl rfl rfl (XU _ _ Pl.fmg _ _ [(1,1),(oo,8),(nn,8)] _ (Rd.mkd (hm.get (k:=1) rfl)) (Rd.JL (hm.get (k:=0) rfl)) (by decide) (by simp) (by simp only [LR,Kd,or_false,forall_eq_or_imp,forall_eq,Pl.okF,Pl.I64]; omega) (by simp only [Pl.V6,List.all_cons,List.all_nil,Xb ho.2,Xb hn.2,fit1 (show (1:Int)≤2 by decide),Bool.and_self])) fun v w hR=>?_
      obtain ⟨p_s,n_s,cap_s,g_s,b_s,rfl,ha_s,hmc⟩:=hR
      refine ⟨hh.ext hmc.to,?_⟩
      replace hh:=hh.ext hmc.to
      replace hm:=hm.Jt hmc
      obtain rfl:=ha_s.J0
      refine au 6 ?_
      exact Qt ⟨p_s,_,cap_s,g_s,b_s⟩ ⟨(hm.pick [0,3] rfl),ha_s⟩ ⟨rfl,rfl,rfl,rfl,trivial⟩
     ·
      refine Jb (l:=[_,_,_,_,_,_]) rfl rfl sl267.h z265.h rfl rfl rfl rfl rfl rfl rfl hm hh fun fd w hg_fd hm hh=>?_
      refine XT rfl rfl rfl cb22 hm 1 rfl hh hg_mg fun w hm hh=>?_
      refine ca rfl rfl rfl (XU _ _ Pl.fmg _ _ [(1,1),(oo,8),(nn,8)] _ (Rd.mkd (hm.get (k:=1) rfl)) (Rd.JL (hm.get (k:=0) rfl)) (by decide) (by simp) (by simp only [LR,Kd,or_false,forall_eq_or_imp,forall_eq,Pl.okF,Pl.I64]; omega) (by simp only [Pl.V6,List.all_cons,List.all_nil,Xb ho.2,Xb hn.2,fit1 (show (1:Int)≤2 by decide),Bool.and_self])) fun v w hR=>?_
      obtain ⟨p_s,n_s,cap_s,g_s,b_s,rfl,ha_s,hmc⟩:=hR
      refine ⟨hh.ext hmc.to,?_⟩
      replace hh:=hh.ext hmc.to
      replace hm:=hm.Jt hmc
      obtain rfl:=ha_s.J0
      refine au 6 ?_
      exact Qt ⟨p_s,_,cap_s,g_s,b_s⟩ ⟨(hm.pick [0,3] rfl),ha_s⟩ ⟨rfl,rfl,rfl,rfl,trivial⟩
    ·
     refine Jb (l:=[_,_,_,_,_,_]) rfl rfl sl267.h z265.h rfl rfl rfl rfl rfl rfl rfl hm hh fun fd w hg_fd hm hh=>?_
     refine Jb (l:=[_,_,_,_]) rfl rfl sl22.h z5.h rfl rfl rfl rfl rfl rfl rfl hm hh fun mg w hg_mg hm hh=>?_
     refine XT rfl rfl rfl cb22 hm 0 rfl hh hg_mg fun w hm hh=>?_
     refine ca rfl rfl rfl (XU _ _ Pl.fmg _ _ [(1,1),(oo,8),(nn,8)] _ (Rd.mkd (hm.get (k:=0) rfl)) (Rd.JL (hm.get (k:=1) rfl)) (by decide) (by simp) (by simp only [LR,Kd,or_false,forall_eq_or_imp,forall_eq,Pl.okF,Pl.I64]; omega) (by simp only [Pl.V6,List.all_cons,List.all_nil,Xb ho.2,Xb hn.2,fit1 (show (1:Int)≤2 by decide),Bool.and_self])) fun v w hR=>?_
     obtain ⟨p_s,n_s,cap_s,g_s,b_s,rfl,ha_s,hmc⟩:=hR
     refine ⟨hh.ext hmc.to,?_⟩
     replace hh:=hh.ext hmc.to
     replace hm:=hm.Jt hmc
     obtain rfl:=ha_s.J0
     refine au 6 ?_
     exact Qt ⟨p_s,_,cap_s,g_s,b_s⟩ ⟨(hm.pick [0,3] rfl),ha_s⟩ ⟨rfl,rfl,rfl,rfl,trivial⟩
 ·
  obtain ⟨p_s,n_s,cap_s,g_s,b_s⟩:=y
  obtain ⟨hm,ha_s⟩:=hM
  simp only at hm ha_s ⊢
  obtain rfl:=ha_s.J0
  refine au 1 ?_
  refine JS (.pure 0 (.pure 1 (.pure 2 (.pure 4 (.pure 5 (.act 3 (.cut (.act 6 (.pure 7 .done))))))))) (fun j=>(j=g_s∧b_s.real=true)) mix (by kernel_rfl) hm fun w hw hm0 hh=>?_
  have hm:=hm0
  refine au 2 ?_
  refine Ja rfl rfl (Yx (ln:=0) (hn:=32) rfl ar23 rfl rfl (by omega) (by omega) (by omega)) ?_
  refine au 1 ?_
  refine Ja rfl rfl (Yx (ln:=0) (hn:=32) rfl ar23 rfl rfl (by omega) (by omega) (by omega)) ?_
  refine Xm rfl rfl rfl rfl rfl rfl sl22.h sl22.h z5.h rfl (Zl _) (hl_lo oo nn H q cs.length cq▸rd_mid (hm.get (k:=1) rfl) 2 32) (hl_c H 0) ha_s hm 0 rfl (by omega) (by omega) hh (fun hr=>.inr ⟨rfl,hr⟩) fun p_s cap_s g_s b_s w _ ha_s hm hh hg_s=>?_
  refine au 1 ?_
  refine Jy rfl rfl rfl rfl rfl rfl sl22.h sl22.h z5.h rfl (Zl _) (hl_hi oo nn H q cs.length cq▸rd_mid (hm.get (k:=1) rfl) 34 32) (hl_c H 32) ha_s hm 0 rfl (by omega) (by omega) fun p_s cap_s g_s b_s w ha_s hm=>?_
  replace ha_s:=ha_s.to (show _=(Pl.fhd oo nn++Pl.hl H 0++Pl.hl H 32).flatMap Jk by simp only [Pl.fhd,Lh])
  have hn9:=ha_s.J0
  have hl2:(Pl.fhd oo nn++Pl.hl H 0++Pl.hl H 32).length≤300:=by omega
  refine au 9 ?_
  refine Ja rfl rfl (JX rfl is3 it55 (u64w (by omega) (by omega))) ?_
  refine au 1 ?_
  refine Jb (l:=[_,_]) rfl rfl sl267.h z265.h rfl rfl rfl rfl rfl rfl rfl hm trivial fun m22 w hg_m22 hm hh=>?_
  refine cT rfl rfl rfl (C.eqv (XU p_s cap_s (Pl.fhd oo nn++Pl.hl H 0++Pl.hl H 32) _ 1 [((cs.length:Int),4)] _ (ha_s.rd hm 1 rfl) (Rd.JL (hm.get (k:=0) rfl)) (by omega) (by simp) (by simp only [LR,Kd,or_false,forall_eq_or_imp,forall_eq,Pl.okF,Pl.I64]; omega) (by simp only [Pl.V6,List.all_cons,List.all_nil,fit4 (show (cs.length:Int)≤1000 by omega),Bool.and_self])) (by rw [← hn9]; rfl)) fun v w hR=>?_
  obtain ⟨p_u,n_u,cap_u,g_u,b_u,rfl,ha_u,hmc⟩:=hR
  replace hm:=hm.Jt hmc
  obtain rfl:=ha_u.J0
  refine au 17 ?_
  refine Jg (ι:=Nat×Ow) rfl (ks:=[2,3,7,49,50]) (.cons rfl (.cons rfl (.cons rfl (.cons rfl (.cons rfl .nil))))) (fun x=>[(51,.int .i64 (x.1:Int)),(5,.slice x.2.p x.2.n x.2.cap)]) (fun x w=>Mem w0 w No [(x.2.g,x.2.b),(m1,.row 26 (dlV oo nn H q cs.length cq))]∧Acc 5 1 x.2.p x.2.n x.2.cap ((Pl.fpre oo nn H cs.length++((cs.take x.1).map CmdV.cm).flatMap Pl.cenc).flatMap Jk) x.2.g x.2.b∧x.1≤cs.length) (fun x=>cs.length-x.1) (0,⟨p_u,_,cap_u,g_u,b_u⟩) (⟨(hm.pick [0,3] rfl),ha_u.to (by simp [Pl.fpre]),LL _⟩) ⟨rfl,rfl,trivial⟩ (fun x w hM=>?_)
  obtain ⟨k,p_s,n_s,cap_s,g_s,b_s⟩:=x
  obtain ⟨hm,ha_s,hk⟩:=hM
  simp only at hm ha_s hk
  obtain rfl:=ha_s.J0
  refine au 6 ?_
  refine cd (fun hc1=>?_) fun hc1=>?_
  ·
   simp only [dT] at hc1
   obtain ⟨c,hi⟩:∃ y_,cs[k]?=some y_:=⟨_,La (by omega)⟩
   obtain ⟨qb,qo,rfl⟩:=hq.atI Jf (by decide) hi
   have hcm:=Ld hi
   have hcc:=Pl.Jl (hck c hcm)
   have k1:c.cm.k=c.k:=rfl
   have k2:c.cm.to=c.to:=rfl
   have k3:c.cm.fr=c.fr:=rfl
   have k4:c.cm.ln=c.ln:=rfl
   have k5:c.cm.bs=c.d.bs:=rfl
   rw [k1,k2,k3,k4,k5] at hcc
   have hb1:=hbl c hcm
   have hal:=cenc_le (cs:=(cs.take k).map CmdV.cm) (fun d hd=>by obtain ⟨e,he,rfl⟩:=Ln.1 hd; exact hbl e (List.mem_of_mem_take he))
   rw [Lj,Lg] at hal
   have hfp:=fpre_le oo nn H cs.length
   have hAl:(Pl.fpre oo nn H cs.length++((cs.take k).map CmdV.cm).flatMap Pl.cenc).length≤10000000000:=by rw [Lc]; omega
   refine au 7 ?_
   refine Ja rfl rfl (JU rfl ag60.h (hq.Jj hm.to).nt Jf hi) ?_
   refine aT hm fun m23 w hm=>?_
   refine st hm 0 fun w hm=>?_
   refine au 3 ?_
   refine dw [0,3,6,9,12,15,19,2,22,24] hm fun w hw hm0 hh hm=>?_
   refine au 2 ?_
   refine Ja rfl rfl (JX rfl is3 it55 (u64w (by omega) (by omega))) ?_
   refine au 3 ?_
   refine cB rfl rfl rfl (QK c.to _ (by omega)) hm hh fun w hm hh=>?_
   refine au 1 ?_
   refine Jb (l:=[_,_,_,_]) rfl rfl sl267.h z265.h rfl rfl rfl rfl rfl rfl rfl hm trivial fun hd w hg_hd hm hh=>?_
   refine au 11 ?_
   refine cd (fun hc2=>?_) fun hc2=>?_
   ·
    simp only [dT] at hc2
    have hnx:((Pl.fpre oo nn H cs.length++((cs.take k).map CmdV.cm).flatMap Pl.cenc)++Pl.Vl [(c.k,1),(c.to,8),(c.fr,8),(c.ln,8)]).flatMap Jk=((Pl.fpre oo nn H cs.length++((cs.take (k+1)).map CmdV.cm).flatMap Pl.cenc).flatMap Jk):=by
     rw [cenc_next hi _ (show Pl.cenc c.cm=Pl.Vl [(c.k,1),(c.to,8),(c.fr,8),(c.ln,8)]++[] by unfold Pl.cenc Pl.cfl; rw [k1,LI hc2,LI hc2]; rfl),Lq]
    refine au 1 ?_
    refine JS (.pure 0 (.pure 1 (.pure 2 (.pure 3 (.pure 5 (.pure 6 (.act 4 (.act 7 (.act 8 (.act 9 (.act 10 (.pure 11 (.pure 12 (.pure 13 (.pure 14 .done))))))))))))))) (fun j=>j=hd) mix (by kernel_rfl) hm fun w hw hm0 hh=>?_
    have hm:=hm0
    refine au 3 ?_
    refine Ja rfl rfl (Jh rfl sc3.h (hm0.nd 1 rfl (hm0.ne 1 0 rfl rfl rfl)) rfl) ?_
    refine au 1 ?_
    refine Ja rfl rfl (Jh rfl sc3.h (hm0.nd 1 rfl (hm0.ne 1 0 rfl rfl rfl)) rfl) ?_
    refine cB rfl rfl rfl (QK c.fr _ (by omega)) hm hh fun w hm hh=>?_
    refine cB rfl rfl rfl (QK c.ln _ (by omega)) hm hh fun w hm hh=>?_
    refine Jb (l:=[_,_,_,_]) rfl rfl sl267.h z265.h rfl rfl rfl rfl rfl rfl rfl hm hh fun m24 w hg_m24 hm hh=>?_
    refine Xm rfl rfl rfl rfl rfl rfl sl267.h sl267.h z265.h rfl rfl (Rd.JL (hm.get (k:=0) rfl)) rfl (Acc.row rfl) hm 1 rfl (by omega) (by omega) hh (fun _=>.inr rfl) fun p_h cap_h g_h b_h w _ ha_h hm hh hg_h=>?_
    refine ca rfl rfl rfl (XU _ _ (Pl.fpre oo nn H cs.length++((cs.take k).map CmdV.cm).flatMap Pl.cenc) _ _ [(c.k,1),(c.to,8),(c.fr,8),(c.ln,8)] _ (ha_s.rd hm 3 rfl) (ha_h.rd hm 1 rfl) (by omega) (by simp) (by simp only [LR,Kd,or_false,forall_eq_or_imp,forall_eq,Pl.okF,Pl.I64]; omega) (by simp only [Pl.V6,List.all_cons,List.all_nil,Xb (show c.to≤4611686018427387903 by omega),Xb (show c.fr≤4611686018427387903 by omega),Xb (show c.ln≤4611686018427387903 by omega),fit1 (show c.k≤2 by omega),Bool.and_self])) fun v w hR=>?_
    obtain ⟨p_t,n_t,cap_t,g_t,b_t,rfl,ha_t,hmc⟩:=hR
    refine ⟨hh.ext hmc.to,?_⟩
    replace hh:=hh.ext hmc.to
    replace hm:=hm.Jt hmc
    obtain rfl:=ha_t.J0
    refine au 14 ?_
    exact next (k+1,⟨p_t,_,cap_t,g_t,b_t⟩) (by simp only; omega) ⟨(hm.pick [0,5] rfl),ha_t.to hnx,by simp only; omega⟩ ⟨nx k,rfl,rfl,rfl,rfl,rfl,rfl,trivial⟩
   ·
    simp only [dF] at hc2
    have hnx:((Pl.fpre oo nn H cs.length++((cs.take k).map CmdV.cm).flatMap Pl.cenc)++Pl.Vl [(c.k,1),(c.to,8),((c.d.bs.length:Int),8)]).flatMap Jk++c.d.bs.flatMap Jk=((Pl.fpre oo nn H cs.length++((cs.take (k+1)).map CmdV.cm).flatMap Pl.cenc).flatMap Jk):=by
     rw [cenc_next hi _ (show Pl.cenc c.cm=Pl.Vl [(c.k,1),(c.to,8),((c.d.bs.length:Int),8)]++c.d.bs by unfold Pl.cenc Pl.cfl; rw [k1,LH hc2,LH hc2]; rfl)]
     simp only [Lh,Lp]
    refine au 9 ?_
    refine cA rfl rfl rfl (QK c.d.bs.length _ (by omega)) hm fun w hm=>?_
    refine Jb (l:=[_,_]) rfl rfl sl267.h z265.h rfl rfl rfl rfl rfl rfl rfl hm trivial fun m24 w hg_m24 hm hh=>?_
    refine Jy rfl rfl rfl rfl rfl rfl sl267.h sl267.h z265.h rfl rfl (Rd.JL (hm.get (k:=0) rfl)) rfl (Acc.row rfl) hm 1 rfl (by omega) (by omega) fun p_h cap_h g_h b_h w ha_h hm=>?_
    refine cT rfl rfl rfl (XU _ _ (Pl.fpre oo nn H cs.length++((cs.take k).map CmdV.cm).flatMap Pl.cenc) _ _ [(c.k,1),(c.to,8),((c.d.bs.length:Int),8)] _ (ha_s.rd hm 3 rfl) (ha_h.rd hm 1 rfl) (by omega) (by simp) (by simp only [LR,Kd,or_false,forall_eq_or_imp,forall_eq,Pl.okF,Pl.I64]; omega) (by simp only [Pl.V6,List.all_cons,List.all_nil,Xb (show c.to≤4611686018427387903 by omega),Xb (show (c.d.bs.length:Int)≤4611686018427387903 by omega),fit1 (show c.k≤2 by omega),Bool.and_self])) fun v w hR=>?_
    obtain ⟨p_t,n_t,cap_t,g_t,b_t,rfl,ha_t,hmc⟩:=hR
    replace hm:=hm.Jt hmc
    obtain rfl:=ha_t.J0
    refine au 10 ?_
    refine Jy rfl rfl rfl rfl rfl rfl sl22.h sl22.h z5.h rfl (Zl _) ((hok c hcm).2.2.2.2.rd.Jj hm.to) (J0 _) ha_t hm 0 rfl (by have:=Y7 [(c.k,1),(c.to,8),((c.d.bs.length:Int),8)] (by simp); simp only [Lc,Li,LA] at *; omega) (by have:=Y7 [(c.k,1),(c.to,8),((c.d.bs.length:Int),8)] (by simp); simp only [Lc,Li,LA] at *; omega) fun p_t cap_t g_t b_t w ha_t hm=>?_
    refine au 8 ?_
    exact next (k+1,⟨p_t,_,cap_t,g_t,b_t⟩) (by simp only; omega) ⟨(hm.pick [0,5] rfl),ha_t.to hnx,by simp only; omega⟩ ⟨nx k,rfl,rfl,rfl,rfl,rfl,rfl,trivial⟩
  ·
   simp only [dF] at hc1
   have hke:k=cs.length:=by omega
   have hfin:(Pl.fpre oo nn H cs.length++((cs.take k).map CmdV.cm).flatMap Pl.cenc).flatMap Jk=(Pl.fenc oo nn H (cs.map CmdV.cm)).flatMap Jk:=by rw [hke,Lv,Pl.fenc,Lj]
   refine au 24 ?_
   exact ⟨_,_,_,_,_,rfl,ha_s.to hfin,(hm.pick [0] rfl)⟩
end Go.Proofs.YtaehgpeenaomcaaGreat
namespace Go.Pl
open Go Go.Cx Go.Proofs.YtaehgpeenaomcaaGreat
def fid(bs:List UInt8):Int:=(Pl.ruint (Pl.sha bs) ⟨0,0,0⟩ 8).2
end Go.Pl
namespace Go.Proofs.YtaehgpeenaomcaaGreat
open Go Go.Cx
theorem f_id(q:Option Addr)(cq:Nat)(p:Option Addr)(cap:Nat)(bs:List UInt8)(w0:World)(hq:Rd w0 q [.slice p bs.length cap])(hp:Rd w0 p (bs.flatMap Jk))(hl:bs.length≤1000000000000):C Tryz.prog 145 [.slice q 1 cq] w0 fun v w'=>v=.int .u64 (Pl.fid bs)∧Ext No w0 w':=by
 refine C_o Tryz.func145 fun κ _ Je Jc hm=>?_
 refine au 8 ?_
 refine cA rfl rfl rfl (h_of q cq [⟨p,cap,bs⟩] _ (hq.Jj hm.to) (by intro s9 hs9; rw [Lf.1 hs9]; exact hp.Jj hm.to) (by simp) (by simpa using hl)) hm fun w hm=>?_
 rw [show ([⟨p,cap,bs⟩]:List SB).flatMap (·.bs)=bs by simp,hV_eq (Pl.Qz _)]
 refine aT hm fun m1 w hm=>?_
 refine st hm 0 fun w hm=>?_
 replace hm:=Xu hm rfl
 rw [← hV_eq (Pl.Qz bs)] at hm
 refine au 4 ?_
 refine Ja rfl rfl (Yx (ln:=0) (hn:=32) rfl ar23 rfl rfl (by omega) (by omega) (by omega)) ?_
 refine cT rfl rfl rfl (C.eqv (w_new _ 32 (Pl.sha bs) _ (Rd.JL (hm.get (k:=0) rfl)) (by rw [Pl.Qz]; decide)) (by rw [Pl.Qz])) fun v w hR=>?_
 obtain ⟨r,p_rb,cap_rb,g_rb,b_rb,rfl,ha_rb,hmc⟩:=hR
 replace hm:=hm.Jt hmc
 refine cT rfl rfl rfl (w_uint r _ p_rb cap_rb (Pl.sha bs) ⟨0,0,0⟩ 8 _ (hm.get (k:=0) rfl) (ha_rb.rd hm 1 rfl) (ha_rb.apart hm 1 0 rfl rfl rfl) ha_rb.le ha_rb.spot (LL _) (by rw [Pl.Qz]; decide) (by decide)) fun v w hR=>?_
 obtain ⟨rfl,hmc⟩:=hR
 replace hm:=hm.Qv 0 rfl hmc
 refine au 5 ?_
 exact ⟨rfl,hm.to⟩
end Go.Proofs.YtaehgpeenaomcaaGreat
