/- Part 9 of the proof of TopBack: Rgt RgtB Dd DdB DdC DdD SmA SmB SmC DdE DdF DdG DdH DdI DdJ Sf. Conditions: the hypotheses of each theorem. -/
import Derived.Test.YtaehgpeenaomcaaGreatV07
import Derived.Test.YtaehgpeenaomcaaGreatChecked
set_option maxRecDepth 10000
set_option maxHeartbeats 4000000
set_option linter.unusedVariables false
set_option linter.unusedSimpArgs false
namespace Go.Proofs.YtaehgpeenaomcaaGreat
open Go Go.Cx
def gX(s:Int)(xs:List aa):Bool:=decide (xs.length≤30∧1≤s∧(∀ c∈xs,Pl.av c.cm=0∧c.d.bs.length≤300∧Pl.Ji c.cm s≤300)∧Pl.first s (xs.map aa.cm) xs.length≤300)
def NY(r:Tg)(n cr:Nat)(o nn:Int)(H:Nat→UInt8)(q:Tg)(len cq:Nat)(s b m:Int):List Value:=.slice r n cr::(aZ o nn H q len cq++[.int .i64 s,.int .i64 b,.int .i64 m])
theorem smb{oo nn b:Int}{cs:List aa}(h:(bif (decide ((cs.length:Int)>20)||decide (oo>300)||decide (nn>300)||!(cs.all (fun c=>decide (c.d.bs.length≤300))&&decide (cs.length≤40))||!Pl.mL oo nn (cs.map aa.cm)||decide (b>300)) then false else (Pl.valid 0 nn&&(decide (b<1)||gX b cs)))=true):cs.length≤20∧nn≤300∧b≤300∧Pl.valid 0 nn=true:=by
 cases hq:(decide ((cs.length:Int)>20)||decide (oo>300)||decide (nn>300)||!(cs.all (fun c=>decide (c.d.bs.length≤300))&&decide (cs.length≤40))||!Pl.mL oo nn (cs.map aa.cm)||decide (b>300)) with
 | true=>rw [hq] at h; cases h
 | false=>
  rw [hq] at h
  simp only [cond_false,bA] at h
  simp only [bD,dF] at hq
  exact ⟨Ta,Ta,Ta,h.1⟩
theorem jbl{x:Bool}{oo nn b:Int}{cs:List aa}(h:(x||!(bif (decide ((cs.length:Int)>20)||decide (oo>300)||decide (nn>300)||!(cs.all (fun c=>decide (c.d.bs.length≤300))&&decide (cs.length≤40))||!Pl.mL oo nn (cs.map aa.cm)||decide (b>300)) then false else (Pl.valid 0 nn&&(decide (b<1)||gX b cs))))=false):cs.length≤20:=by
 rw [LS,Bool.not_eq_false'] at h
 exact (smb h.2).1
theorem rbf{f:Th}{oo nn sz bd mo:Int}{cs:List aa}(h:(decide ((f.length:Int)>300)||!(bif (decide ((cs.length:Int)>20)||decide (oo>300)||decide (nn>300)||!(cs.all (fun c=>decide (c.d.bs.length≤300))&&decide (cs.length≤40))||!Pl.mL oo nn (cs.map aa.cm)||decide (bd>300)) then false else (Pl.valid 0 nn&&(decide (bd<1)||gX bd cs)))||!((cs.all (fun c=>decide (c.d.bs.length≤300))&&decide (cs.length≤40))&&Pl.mL oo nn (cs.map aa.cm)&&decide (oo=f.length)&&decide (nn≤3000))||decide (bd<1)||decide (sz<1)||decide (sz>1000)||decide (mo<0)||decide (mo>100))=false):oo=f.length∧f.length≤300∧nn≤300∧Pl.valid 0 nn=true∧1≤bd∧bd≤300∧1≤sz∧sz≤1000:=by
 rw [LS,LS,LS,LS,LS,LS,LS] at h
 obtain ⟨⟨⟨⟨⟨⟨⟨a1,a2⟩,a3⟩,a4⟩,a5⟩,a6⟩,a7⟩,a8⟩:=h
 rw [Bool.not_eq_false'] at a2 a3
 obtain ⟨b1,b2,b3,b4⟩:=smb a2
 simp only [bA,dT] at a3
 simp only [dF] at a1 a4 a5 a6
 exact ⟨a3.1.2,Ta,b2,b4,Ta,b3,Ta,Ta⟩
theorem Hu(s:Int)(q:Tg)(cq:Nat)(xs:List aa)(w0:World)(hx:Rd w0 q (xs.flatMap JM))(aq:∀ c∈xs,fE w0 c)(hl:xs.length≤9223372036854775807)(hs:Pl.aA s):C Tryz.prog 33 [.int .i64 s,.slice q xs.length cq] w0 fun v w'=>v=.bool (gX s xs)∧Ext No w0 w':=by
 refine aH Tryz.func33 fun κ _ Je Jc hm=>?_
 refine au 17 ?_
 refine cd (fun ai=>?_) fun ai=>?_
 ·
  simp only [bB,dT] at ai
  refine au 8 ?_
  exact ⟨LM Value.bool (LN fun h=>by omega).symm,hm.to⟩
 ·
  simp only [bD,dF] at ai
  refine au 14 ?_
  refine Jg (ι:=Nat) rfl (ks:=[0,1]) Tn (fun k=>[(6,.int .i64 k),(5,.int .i64 (Pl.first s (xs.map aa.cm) k))]) (fun k w=>Mem w0 w No []∧k≤xs.length∧(0≤Pl.first s (xs.map aa.cm) k∧Pl.first s (xs.map aa.cm) k≤300*k)∧∀ (j:Nat) c,j<k→xs[j]?=some c→Pl.av c.cm=0∧c.d.bs.length≤300∧Pl.Ji c.cm s≤300) (fun k=>xs.length-k) 0 (⟨hm,LL _,by simp [Pl.first],fun _ _ h=>absurd h (Nat.not_lt_zero _)⟩) ⟨rfl,(by simp [Pl.first]; rfl),trivial⟩ (fun k w hM=>?_)
  obtain ⟨hm,hk,hfk,cz⟩:=hM
  refine au 9 ?_
  refine cd (fun ao=>?_) fun ao=>?_
  ·
   simp only [dT] at ao
   obtain ⟨c,hi⟩:∃ y_,xs[k]?=some y_:=⟨_,La Ta⟩
   obtain ⟨qb,qo,rfl⟩:=hx.bS Jf Tb hi
   have dH:=aq c (Ld hi)
   have zW:=dH.2.2.2.2.le
   have M0:=dH.2.2.2.2.max
   have lQ:(xs.map aa.cm)[k]?=some c.cm:=by rw [Lt,hi]; rfl
   have Bf:=Pl.Yo s lQ
   have k5:c.cm.bs.length=c.d.bs.length:=rfl
   refine au 6 ?_
   by_cases b6:Pl.av c.cm=0
   by_cases eM:c.d.bs.length≤300
   rotate_left
   rotate_left
   ·
    refine au 4 ?_
    refine Ja rfl rfl (JU rfl ag60.h (hx.Jj hm.to).nt Jf hi)<|cA rfl rfl rfl (gT c.cm c.d.p c.d.cap _ (by exact ⟨dH.1,dH.2.1,dH.2.2.1,dH.2.2.2.1⟩) Ta) hm fun w hm=>au 1 ?_
    refine Ja rfl rfl (JA (c:=true) (Jx rfl) (by simp [b6]))<|au 33 ?_
    exact ⟨LM Value.bool (LN fun h=>by
     have h9:=h.2.2.1 c (Ld hi)
     first | exact b6 h9.1 | exact eM h9.2.1 | omega).symm,hm.to⟩
   ·
    have xX:=Pl.Vc (s:=s) b6
    refine au 4 ?_
    refine Ja rfl rfl (JU rfl ag60.h (hx.Jj hm.to).nt Jf hi)<|cA rfl rfl rfl (gT c.cm c.d.p c.d.cap _ (by exact ⟨dH.1,dH.2.1,dH.2.2.1,dH.2.2.2.1⟩) Ta) hm fun w hm=>au 1 ?_
    refine Ja rfl rfl (JA (c:=false) (Jx rfl) (by simp [b6]))<|au 4 ?_
    refine Ja rfl rfl (Yr rfl sc22.h (hx.Jj hm.to).nt Jf hi rfl)<|au 3 ?_
    refine Ja rfl rfl (JA (c:=false) (Jx rfl) (LN Ta))<|au 3 ?_
    refine Ja rfl rfl (JU rfl ag60.h (hx.Jj hm.to).nt Jf hi)<|au 1 ?_
    refine cA rfl rfl rfl (pH c.cm c.d.p c.d.cap s _ b6 hs) hm fun w hm=>au 4 ?_
    refine cd (fun aD=>?_) fun aD=>?_
    ·
     simp only [dT] at aD
     refine au 13 ?_
     exact ⟨LM Value.bool (LN fun h=>by
      have h9:=h.2.2.1 c (Ld hi)
      first | exact b6 h9.1 | exact eM h9.2.1 | omega).symm,hm.to⟩
    ·
     simp only [dF] at aD
     refine au 7 ?_
     refine Ja rfl rfl (JU rfl ag60.h (hx.Jj hm.to).nt Jf hi)<|au 1 ?_
     refine cA rfl rfl rfl (pH c.cm c.d.p c.d.cap s _ b6 hs) hm fun w hm=>au 10 ?_
     refine next (k+1) Ta ⟨hm,Ta,Ta,fun j d hj hd=>?_⟩ ⟨nx k,by rw [Bf]; rfl,Tm⟩
     rcases L7 j k with h | h
     · exact cz j d h hd
     · obtain rfl:j=k:=by omega
       rw [hi] at hd; cases hd; exact ⟨b6,Ta,Ta⟩
   ·
    refine au 4 ?_
    refine Ja rfl rfl (JU rfl ag60.h (hx.Jj hm.to).nt Jf hi)<|cA rfl rfl rfl (gT c.cm c.d.p c.d.cap _ (by exact ⟨dH.1,dH.2.1,dH.2.2.1,dH.2.2.2.1⟩) Ta) hm fun w hm=>au 1 ?_
    refine Ja rfl rfl (JA (c:=false) (Jx rfl) (by simp [b6]))<|au 4 ?_
    refine Ja rfl rfl (Yr rfl sc22.h (hx.Jj hm.to).nt Jf hi rfl)<|au 3 ?_
    refine Ja rfl rfl (JA (c:=true) (Jx rfl) (LQ Ta))<|au 24 ?_
    exact ⟨LM Value.bool (LN fun h=>by
     have h9:=h.2.2.1 c (Ld hi)
     first | exact b6 h9.1 | exact eM h9.2.1 | omega).symm,hm.to⟩
  ·
   simp only [dF] at ao
   obtain rfl:k=xs.length:=by omega
   have cI:∀ c∈xs,Pl.av c.cm=0∧c.d.bs.length≤300∧Pl.Ji c.cm s≤300:=fun c hc=>by (obtain ⟨j,hj⟩:=List.getElem?_of_mem hc; exact cz j c (Le.1 hj).1 hj)
   refine au 14 ?_
   exact ⟨LM Value.bool (decide_eq_decide.2 ⟨fun h=>⟨Ta,Ta,cI,h⟩,fun h=>h.2.2.2⟩),hm.to⟩
theorem Ar(oo nn:Int)(H:Nat→UInt8)(q:Tg)(cq:Nat)(cs:List aa)(bd:Int)(w0:World)(h1:Pl.aA oo)(h2:Pl.aA nn)(hb:Pl.aA bd)(hq:Rd w0 q (cs.flatMap JM))(aq:∀ c∈cs,fE w0 c):C Tryz.prog 15 [.int .i64 bd,.agg ⟨aZ oo nn H q cs.length cq⟩] w0 fun v w'=>v=.bool (bif (decide ((cs.length:Int)>20)||decide (oo>300)||decide (nn>300)||!(cs.all (fun c=>decide (c.d.bs.length≤300))&&decide (cs.length≤40))||!Pl.mL oo nn (cs.map aa.cm)||decide (bd>300)) then false else (Pl.valid 0 nn&&(decide (bd<1)||gX bd cs)))∧Ext No w0 w':=by
 refine aH Tryz.func15 fun κ _ Je Jc hm=>?_
 refine au 2 ?_
 refine bT hm fun m1 w hm=>?_
 refine au 21 ?_
 refine JK rfl rfl rfl (fun hc=>(Jm (s:=67) (vs:=aZ oo nn H _ cs.length cq) rfl ag26.h (hm.nt 0 rfl) rfl))<|J1 rfl rfl rfl (fun hc=>(J8 (gx hc rfl) QL)) go30 (fun hc=>(DJ oo nn H q cq cs _ (hq.Jj hm.to) (by simp only [bD,dF] at hc; omega))) trivial fun w hE hh=>?_
 replace hm:=hm.ext hE
 refine au 3 ?_
 refine JK rfl rfl rfl (fun hc=>(Jm (s:=67) (vs:=aZ oo nn H _ cs.length cq) rfl ag26.h (hm.nt 0 rfl) rfl))<|J1 rfl rfl rfl (fun hc=>(J8 (gx hc rfl) QL)) go31 (fun hc=>(ur oo nn H q cq cs _ h1 h2 (hq.Jj hm.to) (by simp only [bD,dF] at hc; omega) (fun c hc=>fE.mono (aq c hc) hm.to))) trivial fun w hE hh=>?_
 replace hm:=hm.ext hE
 refine au 8 ?_
 refine cd (fun ai=>?_) fun ai=>?_
 ·
  refine au 8 ?_
  exact ⟨by rw [show (decide ((cs.length:Int)>20)||decide (oo>300)||decide (nn>300)||!(cs.all (fun c=>decide (c.d.bs.length≤300))&&decide (cs.length≤40))||!Pl.mL oo nn (cs.map aa.cm)||decide (bd>300))=true from ai]; rfl,hm.to⟩
 ·
  have UR:cs.length≤20:=by
   have h9:=ai
   simp only [bD,dF] at h9
   omega
  refine au 7 ?_
  refine cA rfl rfl rfl (mU 0 nn _ (by simp only [Pl.aA]; omega) h2) hm fun w hm=>au 4 ?_
  refine YD rfl rfl rfl (fun hc=>(Jx rfl))<|YD rfl rfl rfl (fun hc=>(Jv rfl fo26_4.h))<|YD rfl rfl rfl (fun hc=>(Jh (gx hc rfl) sc24.h (hm.nt 0 rfl) rfl))<|lj rfl rfl rfl (fun hc=>(J8 (gx hc rfl) (J8 (gx hc rfl) QL))) go33 (fun hc=>(Hu bd q cq cs _ (hq.Jj hm.to) (fun c hc=>fE.mono (aq c hc) hm.to) Ta hb)) trivial fun w hE hh=>?_
  replace hm:=hm.ext hE
  refine JK rfl rfl rfl (fun hc=>(sh (gx hc rfl) rfl (ZV hc rfl)))<|au 6 ?_
  exact ⟨by rw [show (decide ((cs.length:Int)>20)||decide (oo>300)||decide (nn>300)||!(cs.all (fun c=>decide (c.d.bs.length≤300))&&decide (cs.length≤40))||!Pl.mL oo nn (cs.map aa.cm)||decide (bd>300))=false from ai]; rfl,hm.to⟩
theorem As(oo nn:Int)(H:Nat→UInt8)(q:Tg)(cq:Nat)(cs:List aa)(r:Tg)(cr:Nat)(f:Th)(sz bd mo:Int)(w0:World)(h1:Pl.aA oo)(h2:Pl.aA nn)(hs:Pl.aA sz)(hb:Pl.aA bd)(hq:Rd w0 q (cs.flatMap JM))(aq:∀ c∈cs,fE w0 c):C Tryz.prog 6 [.agg ⟨NY r f.length cr oo nn H q cs.length cq sz bd mo⟩] w0 fun v w'=>v=.int .i64 (bif (decide ((f.length:Int)>300)||!(bif (decide ((cs.length:Int)>20)||decide (oo>300)||decide (nn>300)||!(cs.all (fun c=>decide (c.d.bs.length≤300))&&decide (cs.length≤40))||!Pl.mL oo nn (cs.map aa.cm)||decide (bd>300)) then false else (Pl.valid 0 nn&&(decide (bd<1)||gX bd cs)))||!((cs.all (fun c=>decide (c.d.bs.length≤300))&&decide (cs.length≤40))&&Pl.mL oo nn (cs.map aa.cm)&&decide (oo=f.length)&&decide (nn≤3000))||decide (bd<1)||decide (sz<1)||decide (sz>1000)||decide (mo<0)||decide (mo>100)) then 0 else 1)∧Ext No w0 w':=by
 refine aH Tryz.func6 fun κ _ Je Jc hm=>?_
 refine au 2 ?_
 refine bT hm fun m1 w hm=>?_
 refine au 14 ?_
 refine JK rfl rfl rfl (fun hc=>(Jm (s:=67) (vs:=aZ oo nn H _ cs.length cq) (gx hc rfl) ag26.h (hm.nt 0 rfl) rfl))<|J1 rfl rfl rfl (fun hc=>(J8 (gx hc rfl) (J8 (gx hc rfl) QL))) go15 (fun hc=>(Ar oo nn H q cq cs bd _ h1 h2 hb (hq.Jj hm.to) (fun c hc=>fE.mono (aq c hc) hm.to))) trivial fun w hE hh=>?_
 replace hm:=hm.ext hE
 refine au 6 ?_
 refine JK rfl rfl rfl (fun hc=>(Jm (s:=67) (vs:=aZ oo nn H _ cs.length cq) (gx hc rfl) ag26.h (hm.nt 0 rfl) rfl))<|J1 rfl rfl rfl (fun hc=>(J8 (gx hc rfl) (J8 (gx hc rfl) QL))) go16 (fun hc=>(Ht oo nn H q cq cs r cr f _ h1 h2 (hq.Jj hm.to) (by have:=jbl hc; omega) (fun c hc=>fE.mono (aq c hc) hm.to))) trivial fun w hE hh=>?_
 replace hm:=hm.ext hE
 refine au 29 ?_
 refine cd (fun ai=>?_) fun ai=>?_
 ·
  refine au 8 ?_
  exact ⟨by rw [show (decide ((f.length:Int)>300)||!(bif (decide ((cs.length:Int)>20)||decide (oo>300)||decide (nn>300)||!(cs.all (fun c=>decide (c.d.bs.length≤300))&&decide (cs.length≤40))||!Pl.mL oo nn (cs.map aa.cm)||decide (bd>300)) then false else (Pl.valid 0 nn&&(decide (bd<1)||gX bd cs)))||!((cs.all (fun c=>decide (c.d.bs.length≤300))&&decide (cs.length≤40))&&Pl.mL oo nn (cs.map aa.cm)&&decide (oo=f.length)&&decide (nn≤3000))||decide (bd<1)||decide (sz<1)||decide (sz>1000)||decide (mo<0)||decide (mo>100))=true from ai]; rfl,hm.to⟩
 ·
  refine au 9 ?_
  exact ⟨by rw [show (decide ((f.length:Int)>300)||!(bif (decide ((cs.length:Int)>20)||decide (oo>300)||decide (nn>300)||!(cs.all (fun c=>decide (c.d.bs.length≤300))&&decide (cs.length≤40))||!Pl.mL oo nn (cs.map aa.cm)||decide (bd>300)) then false else (Pl.valid 0 nn&&(decide (bd<1)||gX bd cs)))||!((cs.all (fun c=>decide (c.d.bs.length≤300))&&decide (cs.length≤40))&&Pl.mL oo nn (cs.map aa.cm)&&decide (oo=f.length)&&decide (nn≤3000))||decide (bd<1)||decide (sz<1)||decide (sz>1000)||decide (mo<0)||decide (mo>100))=false from ai]; rfl,hm.to⟩
theorem gL{l vs:Ti}(h:l.length=vs.length):aU l 0 vs=vs:=by
 rw [QT vs l 0 Ta,List.take_zero,L4,LV,← h,List.drop_length,Lq]
theorem Xu{w0 w:World}{X:Bs}{L:Tf}{j:Nat}{e:TypeId}{l vs:Ti}(h:Mem w0 w X (Qr L j (.row e (aU l 0 vs))))(hl:l.length=vs.length):Mem w0 w X (Qr L j (.row e vs)):=by
 rw [gL hl] at h
 exact h
end Go.Proofs.YtaehgpeenaomcaaGreat
namespace Go.Cx
open Go Go.Cx Go.Proofs.YtaehgpeenaomcaaGreat
def Q1(W:World)(c:aa):Prop:=Pl.aA c.k∧Pl.aA c.to∧Pl.aA c.fr∧Pl.aA c.ln∧c.d.jO W
theorem Q1.mono{w w':World}{c:aa}(h:Q1 w c)(hx:Ext No w w'):Q1 w' c:=⟨h.1,h.2.1,h.2.2.1,h.2.2.2.1,h.2.2.2.2.ext hx⟩
theorem Q1.cm{W:World}{c:aa}(h:Q1 W c):Pl.vQ c.cm:=⟨h.1,h.2.1,h.2.2.1,h.2.2.2.1⟩
end Go.Cx
namespace Go.Proofs.YtaehgpeenaomcaaGreat
open Go Go.Cx
theorem uu{w:World}{c:aa}(h:fE w c):Q1 w c:=⟨h.1,h.2.1,h.2.2.1,h.2.2.2.1,h.2.2.2.2.n⟩
theorem Ya{w0 w:World}{X:Bs}{L B:Tf}{u8:Nat}{y:aa}{o n:Int}(hm:Mem w0 w X L)(h:bh B u8 y.d)(hs:∀ e,e∈B→e∈L)(h1:Pl.single o n y.cm=0):Q1 w y:=by
 have hk:=Pl.Jl (Pl.Jw h1).1
 have e1:y.cm.k=y.k:=rfl
 have e2:y.cm.to=y.to:=rfl
 have e3:y.cm.fr=y.fr:=rfl
 have e4:y.cm.ln=y.ln:=rfl
 refine ⟨?_,?_,?_,?_,h.jO hm hs⟩ <;> simp only [Pl.aA] <;> omega
theorem V5{o n:Int}{ds:List aa}(hv:Pl.VD o n (ds.map aa.cm))(hn:n≤1000000)(y:aa)(hy:y∈ds):y.d.bs.length≤140737488355328:=by
 obtain ⟨h1,h2,h3⟩:=Pl.Jw (hv.one y.cm (Ln.2 ⟨y,hy,rfl⟩))
 have hk:=Pl.Jl h1
 have e5:y.cm.bs=y.d.bs:=rfl
 rcases hk.1 with h | h
 · rw [← e5,h.2.2.1]; simp
 · rw [← e5]; omega
theorem pK(n:Int)(w0:World)(hn:Pl.aA n):C Tryz.prog 90 [.int .i64 n] w0 fun v w'=>v=.bool (Pl.gD n)∧Ext No w0 w':=by
 refine aH Tryz.func90 fun κ _ Je Jc hm=>?_
 refine au 9 ?_
 refine cA rfl rfl rfl (Qw 0 n _ (by simp only [Pl.aA]; omega) hn) hm fun w hm=>au 5 ?_
 exact ⟨rfl,hm.to⟩
theorem nl(oo nn:Int)(H:Nat→UInt8)(q0:Tg)(n0 c0:Nat)(q:Tg)(cq:Nat)(cs:List aa)(w0:World)(hq:Rd w0 q (cs.flatMap JM))(aq:∀ c∈cs,Q1 w0 c)(hl:cs.length≤1000000)(cO:∀ c∈cs,c.d.bs.length≤140737488355328):C Tryz.prog 20 [.agg ⟨aZ oo nn H q0 n0 c0⟩,.slice q cs.length cq] w0 fun v w'=>∃ (ys:List aa) (p:Tg) (n cap g:Nat) (b:ag) (B:Tf),v=.agg ⟨aZ oo nn H p n cap⟩∧Acc 60 5 p n cap (ys.flatMap JM) g b∧ys.map aa.cm=cs.map aa.cm∧(∀ y∈ys,bh B 5 y.d)∧Mem w0 w' No ((g,b)::B):=by
 refine aH Tryz.func20 fun κ _ Je Jc hm=>?_
 refine au 2 ?_
 refine bT hm fun m1 w hm=>?_
 refine aT hm fun m2 w hm=>?_
 refine au 5 ?_
 refine st hm 1 fun w hm=>?_
 replace hm:=hm.JP
 have az:=Acc.nil 60 5 none 0
 refine au 11 ?_
 refine Jg (ι:=Nat×Ow×List aa×List (Nat×ag)) rfl (ks:=[2,4,8,9]) Tn (fun x=>[(10,.int .i64 x.1)]) (fun x w=>Mem w0 w No ((x.2.1.g,x.2.1.b)::(m2,.row 26 (aZ 0 0 (fun _=>0) none 0 0))::(m1,.row 26 (aZ oo nn H x.2.1.p x.2.1.n x.2.1.cap))::x.2.2.2)∧Acc 60 5 x.2.1.p x.2.1.n x.2.1.cap (x.2.2.1.flatMap JM) x.2.1.g x.2.1.b∧x.2.2.1.map aa.cm=(cs.take x.1).map aa.cm∧(∀ y∈x.2.2.1,bh x.2.2.2 5 y.d)∧x.1≤cs.length∧x.2.1.n=x.1) (fun x=>cs.length-x.1) (0,⟨none,0,0,0,.gap⟩,[],[]) (⟨(hm.pick [0,1,2] rfl),az,rfl,Tc,LL _,rfl⟩) Tm (fun x w hM=>?_)
 obtain ⟨hm,az,wM,hH,hk,hn⟩:=hM
 refine au 6 ?_
 refine cd (fun ai=>?_) fun ai=>?_
 ·
  simp only [dT] at ai
  obtain ⟨c,hi⟩:∃ y_,cs[x.1]?=some y_:=⟨_,La Ta⟩
  obtain ⟨qb,qo,rfl⟩:=hq.bS Jf Tb hi
  have dH:=aq c (Ld hi)
  have hbc:=cO c (Ld hi)
  refine au 7 ?_
  refine Ja rfl rfl (JU rfl ag60.h (hq.Jj hm.to).nt Jf hi)<|aT hm fun m3 w hm=>?_
  refine st hm 0 fun w hm=>?_
  refine au 2 ?_
  refine dw [0,3,6,10,13,2,16,18,22] hm fun w hw ar hh hm=>?_
  refine au 3 ?_
  refine ca rfl rfl rfl (qZ c.cm c.d.p c.d.cap _ (dH.2.2.2.2.rd.Jj hm.to) hbc) fun v w hR=>?_
  obtain ⟨aK,dE,aj,aI,aF,rfl,ah,ae⟩:=hR
  refine ⟨hh.ext ae.to,?_⟩
  replace hh:=hh.ext ae.to
  replace hm:=hm.Jt ae
  obtain rfl:=ah.J0
  refine Jb (l:=[_,_,_,_,_]) rfl rfl sl24.h z60.h rfl rfl rfl rfl rfl rfl rfl hm hh fun m4 w mV hm hh=>au 1 ?_
  refine Jy rfl rfl rfl rfl rfl rfl sl24.h sl24.h z60.h rfl rfl (Rd.JL (hm.get (k:=0) rfl)) rfl az hm 3 rfl Ta Ta fun dJ aM cD dK w az hm=>?_
  replace hm:=hm.Gp 1 rfl
  refine au 1 ?_
  refine st hm 4 fun w hm=>?_
  refine au 7 ?_
  refine next (x.1+1,⟨dJ,_,aM,cD,dK⟩,x.2.2.1++[jx c.cm aK aj],x.2.2.2++[(aI,aF)]) Td ⟨(hm.Jp [2,3,4] 5 rfl),az.to ?_,?_,qB hH (ah.held Tc),Td,Td⟩ ⟨nx x.1,Tm⟩
  · simp only [Lh,Lk,LY,Lq]; rfl
  · rw [Lx,wM,LC,hi]; simp; rfl
 ·
  simp only [dF] at ai
  have b8:x.1=cs.length:=by omega
  rw [b8,Lv] at wM
  refine au 7 ?_
  refine Ja rfl rfl (Jm (s:=67) (vs:=aZ oo nn H _ _ _) rfl ag26.h (hm.nt 2 rfl) rfl)<|st hm 1 fun w hm=>?_
  replace hm:=Xu hm rfl
  refine au 3 ?_
  refine dD (fin Je rfl (.cell rfl (Ju (vs:=aZ oo nn H _ _ _) ag26.h (hm.get (k:=1) rfl) rfl) .nil) .one ?_)
  exact ⟨x.2.2.1,_,_,_,_,_,x.2.2.2,rfl,az,wM,hH,(hm.Jp [0] 3 rfl)⟩
theorem DM{c:Pl.Cm}(h:Pl.av c=0):Pl.aA ((Pl.br c).1+(Pl.br c).2):=by
 have hk:=Pl.Jl h
 unfold Pl.br
 simp only [Pl.aA]
 split <;> simp only <;> omega
def Kw(r:Tg)(cr:Nat)(p:Tg)(c:Pl.Cm):Option Addr:=if c.k=1 then bP r cr c.fr.toNat 1 else p
def bqC(cr cap:Nat)(c:Pl.Cm):Nat:=if c.k=1 then cr-c.fr.toNat else cap
theorem US{w:World}{r p:Tg}{cr:Nat}{f:Th}{c:Pl.Cm}(hf:Rd w r (f.flatMap Jk))(bY:f.length≤cr)(hp:Rd w p (c.bs.flatMap Jk)):Rd w (Kw r cr p c) ((Pl.dt f c).flatMap Jk):=by
 unfold Kw Pl.dt
 split
 · exact hf.sub bY
 · exact hp
theorem UT{r p:Tg}{cr:Nat}{f:Th}{c:Pl.Cm}{N:Bs}(hr:f.flatMap Jk≠[]→∀ ad,r=some ad→¬ N ad.block)(hp:c.bs.flatMap Jk≠[]→∀ ad,p=some ad→¬ N ad.block):(Pl.dt f c).flatMap Jk≠[]→∀ ad,Kw r cr p c=some ad→¬ N ad.block:=by
 unfold Kw Pl.dt
 split
 · intro bO ad e
   obtain ⟨a2,e2,e3⟩:=iN e
   rw [← e3]
   refine hr (fun h0=>bO ?_) a2 e2
   have:f=[]:=by
    cases f with
    | nil=>rfl
    | cons x t=>exact absurd h0 (by simp [Jk])
   rw [this]; simp
 · exact hp
theorem DN(oo nn:Int)(H:Nat→UInt8)(q:Tg)(n0 cq:Nat)(c:Pl.Cm)(p:Tg)(cap:Nat)(w0:World)(hk:Pl.vQ c)(hl:c.bs.length≤9223372036854775807):C Tryz.prog 91 [.agg ⟨aZ oo nn H q n0 cq⟩,.agg ⟨fV c p c.bs.length cap⟩] w0 fun v w'=>v=.int .i64 (Pl.single oo nn c)∧Ext No w0 w':=by
 refine aH Tryz.func91 fun κ _ Je Jc hm=>?_
 refine au 2 ?_
 refine bT hm fun m1 w hm=>?_
 refine bT hm fun m2 w hm=>?_
 refine au 7 ?_
 refine cA rfl rfl rfl (G2 c p cap _ hk hl) hm fun w hm=>au 9 ?_
 refine cd (fun ai=>?_) fun ai=>?_
 ·
  simp only [dT] at ai
  refine au 9 ?_
  exact ⟨by unfold Pl.single; rw [LI (by simpa using ai)],hm.to⟩
 ·
  simp only [dF,ne_eq,Decidable.not_not] at ai
  have b6:=Pl.Jl ai
  have ef:=DM ai
  refine au 6 ?_
  refine cA rfl rfl rfl (VI _ _ _ _) hm fun w hm=>au 3 ?_
  refine aT hm fun m3 w hm=>?_
  refine st hm 0 fun w hm=>?_
  refine au 4 ?_
  refine dw [0,3,6,12,15,10,18,21] hm fun w hw ar hh hm=>?_
  refine Ja rfl rfl (Jx rfl)<|Ja rfl rfl (Jx rfl)<|JK rfl rfl rfl (fun hc=>(Jm (s:=2) (vs:=[_,_]) rfl ag32.h (ar.nd 0 rfl id) rfl))<|JK rfl rfl rfl (fun hc=>(Jv rfl fo26_0.h))<|JK rfl rfl rfl (fun hc=>(Jh (gx hc rfl) sc3.h (ar.nd 2 rfl id) rfl))<|J1 rfl rfl rfl (fun hc=>(J8 (gx hc rfl) QL)) go36 (fun hc=>(QC (Pl.br c).1 (Pl.br c).2 _ ef)) hh fun w hE hh=>?_
  replace hm:=hm.ext hE
  refine au 4 ?_
  refine cd (fun ao=>?_) fun ao=>?_
  ·
   refine au 8 ?_
   exact ⟨by unfold Pl.single; rw [LH (by simpa using ai),LI (by simp only [bA,dT] at ao; obtain ⟨h1,h2⟩:=ao; simp only [Pl.br,LI h1] at h2; exact ⟨h1,Ta⟩)],hm.to⟩
  ·
   refine au 4 ?_
   refine dw [0,9,12,4,7,15] hm fun w hw ar hh hm=>?_
   refine au 3 ?_
   refine cB rfl rfl rfl (Vd _ _ _ _) hm hh fun w hm hh=>cB rfl rfl rfl (QC c.to (Pl.aw c) _ (by simp only [Pl.aA]; omega)) hm hh fun w hm hh=>au 3 ?_
   refine cd (fun aD=>?_) fun aD=>?_
   ·
    refine au 8 ?_
    exact ⟨by unfold Pl.single; rw [LH (by simpa using ai),LH (fun h=>by obtain ⟨h1,h2⟩:=h; simp [Pl.br,h1] at ao; omega),LI (by simpa using aD)],hm.to⟩
   ·
    refine au 9 ?_
    exact ⟨by unfold Pl.single; rw [LH (by simpa using ai),LH (fun h=>by obtain ⟨h1,h2⟩:=h; simp [Pl.br,h1] at ao; omega),LH (by simpa using aD)],hm.to⟩
theorem Au(r:Tg)(cr:Nat)(f:Th)(c:Pl.Cm)(p:Tg)(cap:Nat)(w0:World)(hc:Pl.av c=0)(hs:c.k=1→c.fr+c.ln≤f.length)(hf:Rd w0 r (f.flatMap Jk))(bY:f.length≤cr)(eD:cr≠0→∀ ad,r=some ad→ad.spot=none)(hp:Rd w0 p (c.bs.flatMap Jk))(Kp:c.bs.length≤cap)(iC:cap≠0→∀ ad,p=some ad→ad.spot=none):C Tryz.prog 64 [.slice r f.length cr,.agg ⟨fV c p c.bs.length cap⟩] w0 fun v w'=>v=.slice (Kw r cr p c) (Pl.dt f c).length (bqC cr cap c)∧Ext No w0 w':=by
 have b6:=Pl.Jl hc
 refine aH Tryz.func64 fun κ _ Je Jc hm=>?_
 refine au 2 ?_
 refine bT hm fun m1 w hm=>?_
 refine au 7 ?_
 refine cA rfl rfl rfl (VI _ _ _ _) hm fun w hm=>au 3 ?_
 refine aT hm fun m2 w hm=>?_
 refine st hm 0 fun w hm=>?_
 refine au 8 ?_
 refine cd (fun ai=>?_) fun ai=>?_
 ·
  simp only [dT] at ai
  have tX:=hs ai
  have oq:Pl.br c=(c.fr,c.ln):=by unfold Pl.br; rw [LI ai]
  have hb:Pl.dt f c=(f.drop c.fr.toNat).take c.ln.toNat:=by unfold Pl.dt; rw [LI ai]
  have cO:(Pl.dt f c).length=c.ln.toNat:=by rw [hb,Lg,Lm]; omega
  rw [oq] at hm
  refine au 10 ?_
  refine Ja rfl rfl (JE (ln:=c.fr.toNat) (hn:=(c.fr.toNat+c.ln.toNat)) rfl sl22.h ⟨_,LM (fun x=>some (Value.int .i64 x)) Ta⟩ ⟨_,LM (fun x=>some (Value.int .i64 x)) Ta⟩ Ta Ta (fun h=>eD Ta))<|au 6 ?_
  exact ⟨by unfold Kw bqC; rw [LI ai,LI ai,cO]; simp only [Kk],hm.to⟩
 ·
  simp only [dF] at ai
  have hb:Pl.dt f c=c.bs:=by unfold Pl.dt; rw [LH ai]
  refine au 11 ?_
  exact ⟨by unfold Kw bqC; rw [LH ai,LH ai,hb],hm.to⟩
end Go.Proofs.YtaehgpeenaomcaaGreat
namespace Go.Pl
open Go Go.Cx Go.Proofs.YtaehgpeenaomcaaGreat
def jY(a b:Int):Int:=if a<b then -1 else if b<a then 1 else 0
end Go.Pl
namespace Go.Proofs.YtaehgpeenaomcaaGreat
open Go Go.Cx
theorem dm{a b:Int}:Pl.jY a b<0↔a<b:=by
 unfold Pl.jY
 split
 · simp; assumption
 · split <;> simp <;> omega
theorem Kx(g cap:Nat)(xs:Tj)(lo hi:Nat)(fi:FuncId)(l2:Ti)(key:Int→Int)(w0:World)(hr:w0.heap[g]?=some (ag.row 3 (xs.flatMap encI)).Jd)(hle:lo≤hi∧hi≤xs.length)(hl:xs.length≤4611686018427387903)(hg:JH Tryz.prog fi=true)(hf:∀ x y w1,x∈xs→y∈xs→Ext (fun k=>k=g) w0 w1→C Tryz.prog fi (.int .i64 x::.int .i64 y::l2) w1 fun v w2=>v=.int .i64 (Pl.jY (key x) (key y))∧Ext No w1 w2):C Tryz.prog 192 [.slice (some ⟨g,0,none⟩) xs.length cap,.int .i64 (lo:Int),.int .i64 (hi:Int),.func (.func fi) #[] ⟨l2⟩] w0 fun v w'=>v=.tuple ⟨[]⟩∧∃ ys:Tj,ys.Perm xs∧Pl.jC key ys lo hi∧(∀ i,i<lo∨hi≤i→ys[i]?=xs[i]?)∧Mem w0 w' (fun k=>k=g) [(g,.row 3 (ys.flatMap encI))]:=by
 refine Vk Tryz.func192 rfl rfl rfl fun κ _ Je Jc=>?_
 have hm:=Mem.Vq hr
 refine au 8 ?_
 refine Jg (ι:=Nat×List Int) rfl (ks:=[0,1,2,3]) Tn (fun x=>[(8,.int .i64 (x.1:Int))]) (fun x w=>Mem w0 w (fun k=>k=g) [(g,.row 3 (x.2.flatMap encI))]∧x.2.Perm xs∧lo+1≤x.1∧(x.1≤hi∨x.1=lo+1)∧Pl.jC key x.2 lo x.1∧(∀ i,i<lo∨hi≤i→x.2[i]?=xs[i]?)) (fun x=>hi-x.1) (lo+1,xs) (⟨hm,List.Perm.refl _,LP _,.inr rfl,Pl.jC.one _ _ _,fun _ _=>rfl⟩) ⟨(LM (fun x=>some (Value.int .i64 x)) Ta),trivial⟩ (fun x w hM=>?_)
 obtain ⟨hm,hxp,FD,hk,oq,hxo⟩:=hM
 refine au 8 ?_
 refine cd (fun ai=>?_) fun ai=>?_
 ·
  simp only [dT] at ai
  refine au 11 ?_
  refine Jg (ι:=Nat×List Int) rfl (ks:=[0,1,2,3,8]) Tn (fun y=>[(9,.int .i64 (y.1:Int))]) (fun y w=>Mem w0 w (fun k=>k=g) [(g,.row 3 (y.2.flatMap encI))]∧y.2.Perm xs∧lo≤y.1∧y.1≤x.1∧Pl.zY key y.2 lo x.1 y.1∧(∀ i,i<lo∨hi≤i→y.2[i]?=xs[i]?)) (fun y=>y.1) (x.1,x.2) (⟨hm,hxp,Td,LP _,oq.snk,hxo⟩) Tm (fun y w hM=>?_)
  obtain ⟨hm,hyp,Nu,Fv,PZ,hyo⟩:=hM
  refine au 2 ?_
  have fz:=hyp.length_eq
  by_cases hj:lo<y.1
  ·
   obtain ⟨j,dW⟩:∃ j,y.1=j+1:=⟨y.1-1,Ta⟩
   have Bi:((y.1:Int)-1).toNat=j:=by omega
   obtain ⟨v,hv⟩:∃ y_,y.2[y.1]?=some y_:=⟨_,La Ta⟩
   obtain ⟨u,hu⟩:∃ y_,y.2[((y.1:Int)-1).toNat]?=some y_:=⟨_,La Ta⟩
   have hvm:v∈xs:=hyp.subset (Ld hv)
   have NZ:u∈xs:=hyp.subset (Ld hu)
   have wC:y.2[j]?=some u:=by rw [← Bi]; exact hu
   have Bh:y.2[j+1]?=some v:=by rw [← dW]; exact hv
   refine dw [0,3,6,9,12,15,18,21,24,27,30,33,36,39,2,43,45,48] hm fun w hw ar hh hm=>?_
   refine au 2 ?_
   refine Ja rfl rfl (JA (c:=true) (XE rfl rfl) (LQ Ta))<|au 5 ?_
   refine Ja rfl rfl (J3 rfl sc3.h (Rd.JL (ar.get (k:=0) rfl)).nd Jq hv rfl)<|au 4 ?_
   refine Ja rfl rfl (J3 rfl sc3.h (Rd.JL (ar.get (k:=0) rfl)).nd Jq hu rfl)<|au 1 ?_
   refine Qf rfl rfl rfl rfl hg (hf v u _ hvm NZ hm.to) fun v w hR=>?_
   obtain ⟨rfl,hE⟩:=hR
   refine ⟨trivial,?_⟩
   replace hm:=hm.ext hE
   refine au 4 ?_
   refine cd (fun ao=>?_) fun ao=>?_
   ·
    simp only [dT] at ao
    have aX:key v<key u:=dm.1 ao
    refine au 4 ?_
    refine JS (.pure 0 (.pure 1 (.pure 2 (.pure 3 (.pure 4 (.pure 5 (.pure 6 (.pure 7 (.pure 8 (.pure 10 (.pure 11 (.pure 12 (.act2 9 (.act 13 (.pure 14 (.act 15 (.pure 16 (.act 17 .done))))) 13 (.act 9 (.pure 14 (.act 15 (.pure 16 (.act 17 .done)))))))))))))))))) (fun j=>j=g) fP Te hm fun w hw ar hh=>?_
    have hm:=ar
    refine au 12 ?_
    refine QN ?_ ?_
    ·
     refine bW rfl rfl rfl (Jh (l:=y.2.flatMap encI) rfl sc3.h (hm.nt 0 rfl) (bj hu)) hh<|bW rfl rfl rfl (Jh (l:=y.2.flatMap encI) rfl sc3.h (hm.nt 0 rfl) (bj hv)) hh<|au 1 ?_
     refine QO rfl rfl rfl rfl sz3 rfl hm 0 rfl (Nat.ble_eq_true_of_le (by simp only [ff,List.length_set,Li,LA]; omega)) hh (.inr rfl) fun w hm hh=>?_
     rw [XV (by first | omega | (simp only [List.length_set]; omega)),LD] at hm
     refine au 1 ?_
     refine QO rfl rfl rfl rfl sz3 rfl hm 0 rfl (Nat.ble_eq_true_of_le (by simp only [ff,List.length_set,Li,LA]; omega)) hh (.inr rfl) fun w hm hh=>?_
     rw [XV (by first | omega | (simp only [List.length_set]; omega)),Bi] at hm
     refine au 8 ?_
     refine next (j,Pl.swp y.2 j u v) Td ⟨by unfold Pl.swp; rw [dW] at hm; exact (hm.pick [0] rfl),(Pl.mO wC Bh).trans hyp,Td,Td,Pl.zY.step (by rw [← dW]; exact PZ) Ta Ta wC Bh aX,fun i h9=>by rw [Pl.swp_get wC Bh,LH Ta,LH Ta]; exact hyo i h9⟩ ⟨LM (fun x=>some (Value.int .i64 x)) Td,Tm⟩
    ·
     refine bW rfl rfl rfl (Jh (l:=y.2.flatMap encI) rfl sc3.h (hm.nt 0 rfl) (bj hv)) hh<|bW rfl rfl rfl (Jh (l:=y.2.flatMap encI) rfl sc3.h (hm.nt 0 rfl) (bj hu)) hh<|au 1 ?_
     refine QO rfl rfl rfl rfl sz3 rfl hm 0 rfl (Nat.ble_eq_true_of_le (by simp only [ff,List.length_set,Li,LA]; omega)) hh (.inr rfl) fun w hm hh=>?_
     rw [XV (by first | omega | (simp only [List.length_set]; omega)),LD] at hm
     refine au 1 ?_
     refine QO rfl rfl rfl rfl sz3 rfl hm 0 rfl (Nat.ble_eq_true_of_le (by simp only [ff,List.length_set,Li,LA]; omega)) hh (.inr rfl) fun w hm hh=>?_
     rw [XV (by first | omega | (simp only [List.length_set]; omega)),Bi] at hm
     refine au 8 ?_
     refine next (j,Pl.swp y.2 j u v) Td ⟨by unfold Pl.swp; rw [dW] at hm; exact (hm.pick [0] rfl),(Pl.mO wC Bh).trans hyp,Td,Td,Pl.zY.step (by rw [← dW]; exact PZ) Ta Ta wC Bh aX,fun i h9=>by rw [Pl.swp_get wC Bh,LH Ta,LH Ta]; exact hyo i h9⟩ ⟨LM (fun x=>some (Value.int .i64 x)) Td,Tm⟩
   ·
    simp only [dF] at ao
    have iA:key u≤key v:=by
     have h9:¬ key v<key u:=fun h=>ao (dm.2 h)
     omega
    refine au 11 ?_
    have eT:Pl.jC key y.2 lo (x.1+1):=by
     first
     | exact Pl.zY.dP (by rw [← dW]; exact PZ) Ta wC Bh iA
     | (have h8:=PZ; rw [show y.1=lo by omega] at h8; exact h8.SJ)
    refine next (x.1+1,y.2) Td ⟨(hm.pick [0] rfl),hyp,Td,Td,eT,hyo⟩ ⟨nx x.1,Tm⟩
  ·
   refine dw [0,3,6,9,12,15,18,21,24,27,30,33,36,39,2,43,45,48] hm fun w hw ar hh hm=>?_
   refine au 2 ?_
   refine Ja rfl rfl (JA (c:=false) (XE rfl rfl) (LN Ta))<|au 29 ?_
   have eT:Pl.jC key y.2 lo (x.1+1):=by
    first
    | exact Pl.zY.dP (by rw [← dW]; exact PZ) Ta wC Bh iA
    | (have h8:=PZ; rw [show y.1=lo by omega] at h8; exact h8.SJ)
   refine next (x.1+1,y.2) Td ⟨(hm.pick [0] rfl),hyp,Td,Td,eT,hyo⟩ ⟨nx x.1,Tm⟩
 ·
  simp only [dF] at ai
  refine au 4 ?_
  refine eK (fin Jc rfl .nil .nil ?_)
  exact ⟨rfl,x.2,hxp,fun a b p q h1 h2 h3=>oq a b p q h1 h2 Ta,hxo,hm⟩
theorem Ky(x:Int)(w0:World):C Tryz.prog 104 [.int .i64 x] w0 fun v w'=>v=.bool false∧Ext No w0 w':=by
 refine aH Tryz.func104 fun κ _ Je Jc hm=>?_
 refine au 15 ?_
 exact ⟨Tc,hm.to⟩
theorem UU(x y:Int)(w0:World):C Tryz.prog 71 [.int .i64 x,.int .i64 y] w0 fun v w'=>v=.int .i64 (Pl.jY x y)∧Ext No w0 w':=by
 refine aH Tryz.func71 fun κ _ Je Jc hm=>?_
 refine au 8 ?_
 refine cA rfl rfl rfl (Ky x _) hm fun w hm=>au 6 ?_
 refine cA rfl rfl rfl (Ky y _) hm fun w hm=>au 29 ?_
 refine cd (fun bg=>?_) fun bg=>?_
 ·
  simp only [dT] at bg
  refine au 8 ?_
  exact ⟨by unfold Pl.jY; first | rw [LI bg] | rw [LH bg,LI Ta] | rw [LH bg,LH Ta],hm.to⟩
 ·
  simp only [dF] at bg
  refine au 10 ?_
  refine cd (fun jG=>?_) fun jG=>?_
  ·
   simp only [dT] at jG
   refine au 8 ?_
   exact ⟨by unfold Pl.jY; first | rw [LI bg] | rw [LH bg,LI Ta] | rw [LH bg,LH Ta],hm.to⟩
  ·
   simp only [dF] at jG
   refine au 9 ?_
   exact ⟨by unfold Pl.jY; first | rw [LI bg] | rw [LH bg,LI Ta] | rw [LH bg,LH Ta],hm.to⟩
theorem Hv{x:Int}(h:0≤x∧x<18446744073709551616):IntKind.u64.wrap x=x:=by
 have e:IntKind.u64.wrap x=x%18446744073709551616:=by simp [IntKind.wrap,IntKind.signed,IntKind.bits]
 rw [e]; omega
theorem wb{x:Int}(h:0≤x):x.fdiv (2 ^ (min (1:Int).toNat IntKind.u64.bits))=x/2:=Int.fdiv_eq_ediv_of_nonneg _ Tb
theorem yq{i j:Nat}(h:i+j≤4611686018427387903):IntKind.i64.wrap (((i:Int)+j)/2)=(((i+j)/2:Nat):Int):=by
 rw [Ql Ta Ta]; omega
theorem DO{a m b:Nat}(h:a≤m∧m≤b)(he:a=m∨m=b)(p:Nat):Pl.jS a m b p=p:=by unfold Pl.jS; (repeat' split) <;> omega
theorem rn{key:Int→Int}{ys:Tj}{i j:Nat}{u v:Int}(h:ys[i]?=some u)(g:ys[j]?=some v)(p:Nat):Pl.ky key (Pl.x8 ys i j u v) p=if p=j then Pl.ky key ys i else if p=i then Pl.ky key ys j else Pl.ky key ys p:=by
 rw [Pl.du h,Pl.du g]
 unfold Pl.ky
 rw [Pl.qT h g]
 split
 · rfl
 · split <;> rfl
theorem DP(g cap:Nat)(xs:Tj)(a b n:Nat)(fi:FuncId)(l2:Ti)(w0:World)(hr:w0.heap[g]?=some (ag.row 3 (xs.flatMap encI)).Jd)(hle:a+n≤b∧b+n≤xs.length)(hl:xs.length≤1000000):C Tryz.prog 266 [.slice (some ⟨g,0,none⟩) xs.length cap,.int .i64 (a:Int),.int .i64 (b:Int),.int .i64 (n:Int),.func (.func fi) #[] ⟨l2⟩] w0 fun v w'=>v=.tuple ⟨[]⟩∧∃ ys:Tj,ys.Perm xs∧(∀ p,ys[p]?=xs[Pl.mQ a b n p]?)∧Mem w0 w' (fun k=>k=g) [(g,.row 3 (ys.flatMap encI))]:=by
 refine Vk Tryz.func266 rfl rfl rfl fun κ _ Je Jc=>?_
 have hm:=Mem.Vq hr
 refine au 6 ?_
 refine Jg (ι:=Nat×List Int) rfl (ks:=[0,1,2,3]) Tn (fun x=>[(10,.int .i64 (x.1:Int))]) (fun x w=>Mem w0 w (fun k=>k=g) [(g,.row 3 (x.2.flatMap encI))]∧x.2.Perm xs∧(∀ p,x.2[p]?=xs[Pl.mQ a b x.1 p]?)∧x.1≤n) (fun x=>n-x.1) (0,xs) (⟨hm,.refl _,fun p=>by rw [show Pl.mQ a b 0 p=p by unfold Pl.mQ; rw [LH Ta,LH Ta]],LL _⟩) Tm (fun x w hM=>?_)
 obtain ⟨k,ys⟩:=x
 obtain ⟨hm,hyp,Bu,hk⟩:=hM
 simp only at hm hyp Bu hk ⊢
 have fz:=hyp.length_eq
 refine au 8 ?_
 refine cd (fun ai=>?_) fun ai=>?_
 ·
  simp only [dT] at ai
  obtain ⟨u,hu⟩:∃ y_,ys[a+k]?=some y_:=⟨_,La Ta⟩
  obtain ⟨v,hv⟩:∃ y_,ys[b+k]?=some y_:=⟨_,La Ta⟩
  refine au 4 ?_
  refine JS (.pure 0 (.pure 1 (.pure 2 (.pure 3 (.pure 4 (.pure 5 (.pure 6 (.pure 7 (.pure 8 (.pure 9 (.pure 10 (.pure 11 (.pure 12 (.pure 14 (.pure 15 (.pure 16 (.pure 17 (.pure 18 (.act2 13 (.act 19 (.pure 20 (.act 21 (.pure 22 (.act 23 .done))))) 19 (.act 13 (.pure 20 (.act 21 (.pure 22 (.act 23 .done)))))))))))))))))))))))) (fun j=>j=g) fP Te hm fun w hw ar hh=>?_
  have hm:=ar
  refine au 18 ?_
  refine QN ?_ ?_
  ·
   refine bW rfl rfl rfl (Jh (l:=ys.flatMap encI) rfl sc3.h (hm.nt 0 rfl) (bj hv)) hh<|bW rfl rfl rfl (Jh (l:=ys.flatMap encI) rfl sc3.h (hm.nt 0 rfl) (bj hu)) hh<|au 1 ?_
   refine QO rfl rfl rfl rfl sz3 rfl hm 0 rfl (Nat.ble_eq_true_of_le (by simp only [ff,List.length_set,Li,LA]; omega)) hh (.inr rfl) fun w hm hh=>?_
   rw [XV (by first | omega | (simp only [List.length_set]; omega)),show ((a:Int)+k).toNat=a+k by omega] at hm
   refine au 1 ?_
   refine QO rfl rfl rfl rfl sz3 rfl hm 0 rfl (Nat.ble_eq_true_of_le (by simp only [ff,List.length_set,Li,LA]; omega)) hh (.inr rfl) fun w hm hh=>?_
   rw [XV (by first | omega | (simp only [List.length_set]; omega)),show ((b:Int)+k).toNat=b+k by omega] at hm
   refine au 8 ?_
   exact next (k+1,Pl.x8 ys (a+k) (b+k) u v) Td ⟨by unfold Pl.x8; exact (hm.pick [0] rfl),(Pl.mP hu hv).trans hyp,Pl.tL Ta Bu hu hv,Td⟩ ⟨nx k,Tm⟩
  ·
   refine bW rfl rfl rfl (Jh (l:=ys.flatMap encI) rfl sc3.h (hm.nt 0 rfl) (bj hu)) hh<|bW rfl rfl rfl (Jh (l:=ys.flatMap encI) rfl sc3.h (hm.nt 0 rfl) (bj hv)) hh<|au 1 ?_
   refine QO rfl rfl rfl rfl sz3 rfl hm 0 rfl (Nat.ble_eq_true_of_le (by simp only [ff,List.length_set,Li,LA]; omega)) hh (.inr rfl) fun w hm hh=>?_
   rw [XV (by first | omega | (simp only [List.length_set]; omega)),show ((a:Int)+k).toNat=a+k by omega] at hm
   refine au 1 ?_
   refine QO rfl rfl rfl rfl sz3 rfl hm 0 rfl (Nat.ble_eq_true_of_le (by simp only [ff,List.length_set,Li,LA]; omega)) hh (.inr rfl) fun w hm hh=>?_
   rw [XV (by first | omega | (simp only [List.length_set]; omega)),show ((b:Int)+k).toNat=b+k by omega] at hm
   refine au 8 ?_
   exact next (k+1,Pl.x8 ys (a+k) (b+k) u v) Td ⟨by unfold Pl.x8; exact (hm.pick [0] rfl),(Pl.mP hu hv).trans hyp,Pl.tL Ta Bu hu hv,Td⟩ ⟨nx k,Tm⟩
 ·
  simp only [dF] at ai
  obtain rfl:k=n:=by omega
  refine au 4 ?_
  refine eK (fin Jc rfl .nil .nil ?_)
  exact ⟨rfl,ys,hyp,Bu,hm⟩
theorem UW(g cap:Nat)(xs:Tj)(a m b:Nat)(fi:FuncId)(l2:Ti)(w0:World)(hr:w0.heap[g]?=some (ag.row 3 (xs.flatMap encI)).Jd)(hle:a<m∧m<b∧b≤xs.length)(hl:xs.length≤1000000):C Tryz.prog 239 [.slice (some ⟨g,0,none⟩) xs.length cap,.int .i64 (a:Int),.int .i64 (m:Int),.int .i64 (b:Int),.func (.func fi) #[] ⟨l2⟩] w0 fun v w'=>v=.tuple ⟨[]⟩∧∃ ys:Tj,ys.Perm xs∧(∀ p,ys[p]?=xs[Pl.jS a m b p]?)∧Mem w0 w' (fun k=>k=g) [(g,.row 3 (ys.flatMap encI))]:=by
 refine Vk Tryz.func239 rfl rfl rfl fun κ _ Je Jc=>?_
 have hm:=Mem.Vq hr
 refine au 4 ?_
 refine Ja rfl rfl (QR rfl rfl ((Ql Ta Ta).trans (show (m:Int)-a=((m-a:Nat):Int) by omega)))<|au 7 ?_
 refine Ja rfl rfl (QR rfl rfl ((Ql Ta Ta).trans (show (b:Int)-m=((b-m:Nat):Int) by omega)))<|au 5 ?_
 refine Jg (ι:=Nat×Nat×List Int) rfl (ks:=[0,2,4]) Tn (fun x=>[(10,.int .i64 (x.1:Int)),(11,.int .i64 (x.2.1:Int))]) (fun x w=>Mem w0 w (fun k=>k=g) [(g,.row 3 (x.2.2.flatMap encI))]∧x.2.2.Perm xs∧(∀ p,x.2.2[Pl.jS (m-x.1) m (m+x.2.1) p]?=xs[Pl.jS a m b p]?)∧a+x.1≤m∧m+x.2.1≤b∧1≤x.1∧1≤x.2.1) (fun x=>x.1+x.2.1) (m-a,b-m,xs) (⟨hm,.refl _,fun p=>by simp only; rw [show m-(m-a)=a by omega,show m+(b-m)=b by omega],Td,Td,Td,Td⟩) Tm (fun x w hM=>?_)
 obtain ⟨i,j,ys⟩:=x
 obtain ⟨hm,hyp,Bu,hi,hj,bZ,da⟩:=hM
 simp only at hm hyp Bu hi hj bZ da ⊢
 have fz:=hyp.length_eq
 have e1:(m:Int)-i=((m-i:Nat):Int):=by omega
 have e2:(m:Int)+j-i=((m+j-i:Nat):Int):=by omega
 refine au 8 ?_
 refine cd (fun ai=>?_) fun ai=>?_
 ·
  simp only [dT] at ai
  refine au 10 ?_
  refine cd (fun ao=>?_) fun ao=>?_
  ·
   simp only [dT] at ao
   refine au 9 ?_
   refine cT rfl rfl rfl (C.eqv (DP g cap ys (m-i) (m) (j) fi l2 _ (hm.get (k:=0) rfl) Ta Ta) (by rw [fz]; first | rw [e1,e2] | rw [e1])) fun v w hR=>?_
   obtain ⟨rfl,zs,dS,DQ,ae⟩:=hR
   replace hm:=hm.Qv 0 rfl ae
   refine au 5 ?_
   refine Ja rfl rfl (QR rfl rfl ((Ql Ta Ta).trans (show (i:Int)-j=((i-j:Nat):Int) by omega)))<|au 3 ?_
   exact next (i-j,j,zs) Td ⟨(hm.pick [0] rfl),dS.trans hyp,fun p=>(DQ _).trans ((LM (fun q=>ys[q]?) (Pl.M3 Ta Ta)).trans (Bu p)),Td,Td,Td,Td⟩ Tm
  ·
   simp only [dF] at ao
   refine au 13 ?_
   refine cT rfl rfl rfl (C.eqv (DP g cap ys (m-i) (m+j-i) (i) fi l2 _ (hm.get (k:=0) rfl) Ta Ta) (by rw [fz]; first | rw [e1,e2] | rw [e1])) fun v w hR=>?_
   obtain ⟨rfl,zs,dS,DQ,ae⟩:=hR
   replace hm:=hm.Qv 0 rfl ae
   refine au 5 ?_
   refine Ja rfl rfl (QR rfl rfl ((Ql Ta Ta).trans (show (j:Int)-i=((j-i:Nat):Int) by omega)))<|au 3 ?_
   exact next (i,j-i,zs) Td ⟨(hm.pick [0] rfl),dS.trans hyp,fun p=>(DQ _).trans ((LM (fun q=>ys[q]?) (Pl.M4 Ta Ta)).trans (Bu p)),Td,Td,Td,Td⟩ Tm
 ·
  simp only [dF] at ai
  obtain rfl:i=j:=by omega
  refine au 13 ?_
  refine cT rfl rfl rfl (C.eqv (DP g cap ys (m-i) (m) (i) fi l2 _ (hm.get (k:=0) rfl) Ta Ta) (by rw [fz]; first | rw [e1,e2] | rw [e1])) fun v w hR=>?_
  obtain ⟨rfl,zs,dS,DQ,ae⟩:=hR
  replace hm:=hm.Qv 0 rfl ae
  refine au 1 ?_
  refine eK (fin Jc rfl .nil .nil ?_)
  exact ⟨rfl,zs,dS.trans hyp,fun p=>(DQ _).trans ((LM (fun q=>ys[q]?) (Pl.M5 Ta)).trans (Bu p)),hm⟩
def SmI(g cap:Nat)(fi:FuncId)(l2:Ti)(key:Int→Int)(n:Nat):Prop:=∀ (xs:Tj) (a m b:Nat) (w0:World),b-a<n→w0.heap[g]?=some (ag.row 3 (xs.flatMap encI)).Jd→a<m∧m<b∧b≤xs.length→xs.length≤1000000→Pl.Sk (Pl.ky key xs) a m→Pl.Sk (Pl.ky key xs) m b→(∀ x y w1,x∈xs→y∈xs→Ext (fun k=>k=g) w0 w1→C Tryz.prog fi (.int .i64 x::.int .i64 y::l2) w1 fun v w2=>v=.int .i64 (Pl.jY (key x) (key y))∧Ext No w1 w2) →
 C Tryz.prog 193 [.slice (some ⟨g,0,none⟩) xs.length cap,.int .i64 (a:Int),.int .i64 (m:Int),.int .i64 (b:Int),.func (.func fi) #[] ⟨l2⟩] w0 fun v w'=>v=.tuple ⟨[]⟩∧∃ ys:Tj,Pl.Wi xs ys a b∧Pl.Sk (Pl.ky key ys) a b∧Mem w0 w' (fun k=>k=g) [(g,.row 3 (ys.flatMap encI))]
theorem UX(g cap:Nat)(xs:Tj)(a m b nn:Nat)(fi:FuncId)(l2:Ti)(key:Int→Int)(w0:World)(hr:w0.heap[g]?=some (ag.row 3 (xs.flatMap encI)).Jd)(hle:a<m∧m<b∧b≤xs.length)(hl:xs.length≤1000000)(tX:Pl.Sk (Pl.ky key xs) a m)(yr:Pl.Sk (Pl.ky key xs) m b)(hg:JH Tryz.prog fi=true)(hf:∀ x y w1,x∈xs→y∈xs→Ext (fun k=>k=g) w0 w1→C Tryz.prog fi (.int .i64 x::.int .i64 y::l2) w1 fun v w2=>v=.int .i64 (Pl.jY (key x) (key y))∧Ext No w1 w2)(ih:SmI g cap fi l2 key nn)(NC:b-a≤nn):C Tryz.prog 193 [.slice (some ⟨g,0,none⟩) xs.length cap,.int .i64 (a:Int),.int .i64 (m:Int),.int .i64 (b:Int),.func (.func fi) #[] ⟨l2⟩] w0 fun v w'=>v=.tuple ⟨[]⟩∧∃ ys:Tj,Pl.Wi xs ys a b∧Pl.Sk (Pl.ky key ys) a b∧Mem w0 w' (fun k=>k=g) [(g,.row 3 (ys.flatMap encI))]:=by
 refine Vk Tryz.func193 rfl rfl rfl fun κ _ Je Jc=>?_
 have hm:=Mem.Vq hr
 refine au 9 ?_
 refine cd (fun ai=>?_) fun ai=>?_
 ·
  simp only [dT] at ai
  obtain rfl:m=a+1:=by omega
  obtain ⟨q,hq⟩:∃ y_,xs[a]?=some y_:=⟨_,La Ta⟩
  have hqm:q∈xs:=Ld hq
  have hqk:=Pl.du (key:=key) hq
  refine au 14 ?_
  refine Jg (ι:=Nat×Nat) rfl (ks:=[0,1,2,3,4]) Tn (fun x=>[(10,.int .i64 (x.1:Int)),(11,.int .i64 (x.2:Int))]) (fun x w=>Mem w0 w (fun k=>k=g) [(g,.row 3 (xs.flatMap encI))]∧a+1≤x.1∧x.1≤x.2∧x.2≤b∧(∀ p,a+1≤p→p<x.1→Pl.ky key xs p≤key q)∧(∀ p,x.2≤p→p<b→key q≤Pl.ky key xs p)) (fun x=>x.2-x.1) (a+1,b) (⟨hm,LP _,Td,LP _,fun p h h8=>absurd h (by simp only at h8; omega),fun p h h8=>absurd h Td⟩) Tm (fun x w hM=>?_)
  obtain ⟨i,j⟩:=x
  obtain ⟨hm,ki,dY,uc,DR,DS⟩:=hM
  simp only at hm ki dY uc DR DS ⊢
  refine au 8 ?_
  refine cd (fun ao=>?_) fun ao=>?_
  ·
   simp only [dT] at ao
   obtain ⟨u,hu⟩:∃ y_,xs[(i+j)/2]?=some y_:=⟨_,La Ta⟩
   have NZ:u∈xs:=Ld hu
   have huk:=Pl.du (key:=key) hu
   refine au 8 ?_
   refine Ja rfl rfl (JX rfl is3 it151 (Hv Ta))<|Ja rfl rfl (V1 rfl rfl Ta (wb Ta))<|Ja rfl rfl (JX rfl is151 it3 (yq Ta))<|au 4 ?_
   refine dw [0,3,6,9,12,15,18,21,24,2,28,30] hm fun w hw ar hh hm=>?_
   refine au 4 ?_
   refine Ja rfl rfl (J3 rfl sc3.h (Rd.JL (ar.get (k:=0) rfl)).nd Jq hu rfl)<|au 3 ?_
   refine Ja rfl rfl (J3 rfl sc3.h (Rd.JL (ar.get (k:=0) rfl)).nd Jq hq rfl)<|au 1 ?_
   refine Qf rfl rfl rfl rfl hg (hf u q _ NZ hqm hm.to) fun v w hR=>?_
   obtain ⟨rfl,hE⟩:=hR
   refine ⟨trivial,?_⟩
   replace hm:=hm.ext hE
   refine au 3 ?_
   refine cd (fun aD=>?_) fun aD=>?_
   ·
    simp only [dT] at aD
    have aX:key u<key q:=dm.1 aD
    refine au 6 ?_
    exact next ((i+j)/2+1,j) Td ⟨(hm.pick [0] rfl),Td,Td,uc,fun p h h8=>by simp only at h h8 ⊢; have:=yr.le (p:=p) (q:=(i+j)/2) Ta Ta Ta; omega,DS⟩ ⟨LM (fun x=>some (Value.int .i64 x)) Td,Tm⟩
   ·
    simp only [dF] at aD
    have iA:¬ key u<key q:=fun h=>aD (dm.2 h)
    refine au 5 ?_
    exact next (i,(i+j)/2) Td ⟨(hm.pick [0] rfl),ki,Td,Td,DR,fun p h h8=>by simp only at h h8 ⊢; have:=yr.le (p:=(i+j)/2) (q:=p) Ta Ta Ta; omega⟩ Tm
  ·
   simp only [dF] at ao
   obtain rfl:i=j:=by omega
   refine au 13 ?_
   refine Jg (ι:=Nat×List Int) rfl (ks:=[0,1,2,3,4,10]) Tn (fun y=>[(13,.int .i64 (y.1:Int))]) (fun y w=>Mem w0 w (fun k=>k=g) [(g,.row 3 (y.2.flatMap encI))]∧Pl.Wi xs y.2 a b∧Pl.Bm (Pl.ky key y.2) a b i y.1 (key q)∧a≤y.1∧y.1+1≤i) (fun y=>i-y.1) (a,xs) (⟨hm,.refl _ _ _,⟨hqk,fun p s h1 h2 h3 h4 h5=>yr p s (by simp only at h4; omega) h2 h3,fun p h1 h2 h3=>DR p (by simp only at h3; omega) h2,fun p h1 h2 h3=>DS p h1 h2⟩,LP _,Td⟩) Tm (fun y w hM=>?_)
   obtain ⟨k,ys⟩:=y
   obtain ⟨hm,jd,pM,dq,iB⟩:=hM
   simp only at hm jd pM dq iB ⊢
   have fz:=jd.1.length_eq
   refine au 9 ?_
   refine cd (fun bg=>?_) fun bg=>?_
   ·
    simp only [dT] at bg
    obtain ⟨u,hu⟩:∃ y_,ys[k]?=some y_:=⟨_,La Ta⟩
    obtain ⟨v,hv⟩:∃ y_,ys[k+1]?=some y_:=⟨_,La Ta⟩
    refine au 4 ?_
    refine JS (.pure 0 (.pure 1 (.pure 2 (.pure 3 (.pure 4 (.pure 5 (.pure 6 (.pure 7 (.pure 8 (.pure 10 (.pure 11 (.pure 12 (.act2 9 (.act 13 (.pure 14 (.act 15 (.pure 16 (.act 17 .done))))) 13 (.act 9 (.pure 14 (.act 15 (.pure 16 (.act 17 .done)))))))))))))))))) (fun j=>j=g) fP Te hm fun w hw ar hh=>?_
    have hm:=ar
    refine au 12 ?_
    refine QN ?_ ?_
    ·
     refine bW rfl rfl rfl (Jh (l:=ys.flatMap encI) rfl sc3.h (hm.nt 0 rfl) (bj hv)) hh<|bW rfl rfl rfl (Jh (l:=ys.flatMap encI) rfl sc3.h (hm.nt 0 rfl) (bj hu)) hh<|au 1 ?_
     refine QO rfl rfl rfl rfl sz3 rfl hm 0 rfl (Nat.ble_eq_true_of_le (by simp only [ff,List.length_set,Li,LA]; omega)) hh (.inr rfl) fun w hm hh=>?_
     rw [XV (by first | omega | (simp only [List.length_set]; omega)),LD] at hm
     refine au 1 ?_
     refine QO rfl rfl rfl rfl sz3 rfl hm 0 rfl (Nat.ble_eq_true_of_le (by simp only [ff,List.length_set,Li,LA]; omega)) hh (.inr rfl) fun w hm hh=>?_
     rw [XV (by first | omega | (simp only [List.length_set]; omega)),show ((k:Int)+1).toNat=k+1 by omega] at hm
     refine au 8 ?_
     exact next (k+1,Pl.x8 ys k (k+1) u v) Td ⟨(hm.pick [0] rfl),jd.trans (Pl.Wi.swp hu hv Ta Ta) (LP _) (LP _),pM.up Ta Ta Ta (rn hu hv),Td,Td⟩ ⟨nx k,Tm⟩
    ·
     refine bW rfl rfl rfl (Jh (l:=ys.flatMap encI) rfl sc3.h (hm.nt 0 rfl) (bj hu)) hh<|bW rfl rfl rfl (Jh (l:=ys.flatMap encI) rfl sc3.h (hm.nt 0 rfl) (bj hv)) hh<|au 1 ?_
     refine QO rfl rfl rfl rfl sz3 rfl hm 0 rfl (Nat.ble_eq_true_of_le (by simp only [ff,List.length_set,Li,LA]; omega)) hh (.inr rfl) fun w hm hh=>?_
     rw [XV (by first | omega | (simp only [List.length_set]; omega)),LD] at hm
     refine au 1 ?_
     refine QO rfl rfl rfl rfl sz3 rfl hm 0 rfl (Nat.ble_eq_true_of_le (by simp only [ff,List.length_set,Li,LA]; omega)) hh (.inr rfl) fun w hm hh=>?_
     rw [XV (by first | omega | (simp only [List.length_set]; omega)),show ((k:Int)+1).toNat=k+1 by omega] at hm
     refine au 8 ?_
     exact next (k+1,Pl.x8 ys k (k+1) u v) Td ⟨(hm.pick [0] rfl),jd.trans (Pl.Wi.swp hu hv Ta Ta) (LP _) (LP _),pM.up Ta Ta Ta (rn hu hv),Td,Td⟩ ⟨nx k,Tm⟩
   ·
    simp only [dF] at bg
    refine au 7 ?_
    refine dD (fin Je rfl .nil .nil ?_)
    exact ⟨rfl,ys,jd,pM.done Ta,hm⟩
 ·
  simp only [dF] at ai
  refine au 11 ?_
  refine cd (fun jG=>?_) fun jG=>?_
  ·
   simp only [dT] at jG
   have zW:b=m+1:=by omega
   obtain ⟨q,hq⟩:∃ y_,xs[m]?=some y_:=⟨_,La Ta⟩
   have hqm:q∈xs:=Ld hq
   have hqk:=Pl.du (key:=key) hq
   refine au 14 ?_
   refine Jg (ι:=Nat×Nat) rfl (ks:=[0,1,2,3,4]) Tn (fun x=>[(14,.int .i64 (x.1:Int)),(15,.int .i64 (x.2:Int))]) (fun x w=>Mem w0 w (fun k=>k=g) [(g,.row 3 (xs.flatMap encI))]∧a≤x.1∧x.1≤x.2∧x.2≤m∧(∀ p,a≤p→p<x.1→Pl.ky key xs p≤key q)∧(∀ p,x.2≤p→p<m→key q≤Pl.ky key xs p)) (fun x=>x.2-x.1) (a,m) (⟨hm,LP _,Td,LP _,fun p h h8=>absurd h (by simp only at h8; omega),fun p h h8=>absurd h Td⟩) Tm (fun x w hM=>?_)
   obtain ⟨i,j⟩:=x
   obtain ⟨hm,ki,dY,uc,DR,DS⟩:=hM
   simp only at hm ki dY uc DR DS ⊢
   refine au 8 ?_
   refine cd (fun uq=>?_) fun uq=>?_
   ·
    simp only [dT] at uq
    obtain ⟨u,hu⟩:∃ y_,xs[(i+j)/2]?=some y_:=⟨_,La Ta⟩
    have NZ:u∈xs:=Ld hu
    have huk:=Pl.du (key:=key) hu
    refine au 8 ?_
    refine Ja rfl rfl (JX rfl is3 it151 (Hv Ta))<|Ja rfl rfl (V1 rfl rfl Ta (wb Ta))<|Ja rfl rfl (JX rfl is151 it3 (yq Ta))<|au 4 ?_
    refine dw [0,3,6,9,12,15,18,21,24,2,28,30,33] hm fun w hw ar hh hm=>?_
    refine au 4 ?_
    refine Ja rfl rfl (J3 rfl sc3.h (Rd.JL (ar.get (k:=0) rfl)).nd Jq hq rfl)<|au 3 ?_
    refine Ja rfl rfl (J3 rfl sc3.h (Rd.JL (ar.get (k:=0) rfl)).nd Jq hu rfl)<|au 1 ?_
    refine Qf rfl rfl rfl rfl hg (hf q u _ hqm NZ hm.to) fun v w hR=>?_
    obtain ⟨rfl,hE⟩:=hR
    refine ⟨trivial,?_⟩
    replace hm:=hm.ext hE
    refine au 4 ?_
    refine cd (fun jX=>?_) fun jX=>?_
    ·
     simp only [bE,dF] at jX
     have iA:¬ key q<key u:=fun h=>jX (dm.2 h)
     refine au 6 ?_
     exact next ((i+j)/2+1,j) Td ⟨(hm.pick [0] rfl),Td,Td,uc,fun p h h8=>by simp only at h h8 ⊢; have:=tX.le (p:=p) (q:=(i+j)/2) Ta Ta Ta; omega,DS⟩ ⟨LM (fun x=>some (Value.int .i64 x)) Td,Tm⟩
    ·
     simp only [bF,dT] at jX
     have aX:key q<key u:=dm.1 jX
     refine au 5 ?_
     exact next (i,(i+j)/2) Td ⟨(hm.pick [0] rfl),ki,Td,Td,DR,fun p h h8=>by simp only at h h8 ⊢; have:=tX.le (p:=(i+j)/2) (q:=p) Ta Ta Ta; omega⟩ Tm
   ·
    simp only [dF] at uq
    obtain rfl:i=j:=by omega
    refine au 13 ?_
    refine Jg (ι:=Nat×List Int) rfl (ks:=[0,1,2,3,4,14]) Tn (fun y=>[(17,.int .i64 (y.1:Int))]) (fun y w=>Mem w0 w (fun k=>k=g) [(g,.row 3 (y.2.flatMap encI))]∧Pl.Wi xs y.2 a b∧Pl.Bm (Pl.ky key y.2) a b i y.1 (key q)∧i≤y.1∧y.1≤m) (fun y=>y.1) (m,xs) (⟨hm,.refl _ _ _,⟨hqk,fun p s h1 h2 h3 h4 h5=>tX p s h1 h2 (by simp only at h5; omega),fun p h1 h2 h3=>DR p h1 h2,fun p h1 h2 h3=>DS p h1 (by simp only at h3; omega)⟩,Td,LP _⟩) Tm (fun y w hM=>?_)
    obtain ⟨k,ys⟩:=y
    obtain ⟨hm,jd,pM,dq,iB⟩:=hM
    simp only at hm jd pM dq iB ⊢
    have fz:=jd.1.length_eq
    refine au 8 ?_
    refine cd (fun Kz=>?_) fun Kz=>?_
    ·
     simp only [dT] at Kz
     obtain ⟨j,rfl⟩:∃ j,k=j+1:=⟨k-1,Ta⟩
     obtain ⟨u,hu⟩:∃ y_,ys[j+1]?=some y_:=⟨_,La Ta⟩
     obtain ⟨v,hv⟩:∃ y_,ys[j]?=some y_:=⟨_,La Ta⟩
     have Bh:ys[(((j+1:Nat):Int)-1).toNat]?=some v:=by rw [show (((j+1:Nat):Int)-1).toNat=j by omega]; exact hv
     refine au 4 ?_
     refine JS (.pure 0 (.pure 1 (.pure 2 (.pure 3 (.pure 4 (.pure 5 (.pure 6 (.pure 7 (.pure 8 (.pure 10 (.pure 11 (.pure 12 (.act2 9 (.act 13 (.pure 14 (.act 15 (.pure 16 (.act 17 .done))))) 13 (.act 9 (.pure 14 (.act 15 (.pure 16 (.act 17 .done)))))))))))))))))) (fun j=>j=g) fP Te hm fun w hw ar hh=>?_
     have hm:=ar
     refine au 12 ?_
     refine QN ?_ ?_
     ·
      refine bW rfl rfl rfl (Jh (l:=ys.flatMap encI) rfl sc3.h (hm.nt 0 rfl) (bj Bh)) hh<|bW rfl rfl rfl (Jh (l:=ys.flatMap encI) rfl sc3.h (hm.nt 0 rfl) (bj hu)) hh<|au 1 ?_
      refine QO rfl rfl rfl rfl sz3 rfl hm 0 rfl (Nat.ble_eq_true_of_le (by simp only [ff,List.length_set,Li,LA]; omega)) hh (.inr rfl) fun w hm hh=>?_
      rw [XV (by first | omega | (simp only [List.length_set]; omega)),LD] at hm
      refine au 1 ?_
      refine QO rfl rfl rfl rfl sz3 rfl hm 0 rfl (Nat.ble_eq_true_of_le (by simp only [ff,List.length_set,Li,LA]; omega)) hh (.inr rfl) fun w hm hh=>?_
      rw [XV (by first | omega | (simp only [List.length_set]; omega)),show (((j+1:Nat):Int)-1).toNat=j by omega] at hm
      refine au 8 ?_
      exact next (j,Pl.x8 ys (j+1) j u v) Td ⟨(hm.pick [0] rfl),jd.trans (Pl.Wi.swp hu hv Ta Ta) (LP _) (LP _),Pl.Bm.down pM Ta Ta Ta (rn hu hv),Td,Td⟩ ⟨LM (fun x=>some (Value.int .i64 x)) Td,Tm⟩
     ·
      refine bW rfl rfl rfl (Jh (l:=ys.flatMap encI) rfl sc3.h (hm.nt 0 rfl) (bj hu)) hh<|bW rfl rfl rfl (Jh (l:=ys.flatMap encI) rfl sc3.h (hm.nt 0 rfl) (bj Bh)) hh<|au 1 ?_
      refine QO rfl rfl rfl rfl sz3 rfl hm 0 rfl (Nat.ble_eq_true_of_le (by simp only [ff,List.length_set,Li,LA]; omega)) hh (.inr rfl) fun w hm hh=>?_
      rw [XV (by first | omega | (simp only [List.length_set]; omega)),LD] at hm
      refine au 1 ?_
      refine QO rfl rfl rfl rfl sz3 rfl hm 0 rfl (Nat.ble_eq_true_of_le (by simp only [ff,List.length_set,Li,LA]; omega)) hh (.inr rfl) fun w hm hh=>?_
      rw [XV (by first | omega | (simp only [List.length_set]; omega)),show (((j+1:Nat):Int)-1).toNat=j by omega] at hm
      refine au 8 ?_
      exact next (j,Pl.x8 ys (j+1) j u v) Td ⟨(hm.pick [0] rfl),jd.trans (Pl.Wi.swp hu hv Ta Ta) (LP _) (LP _),Pl.Bm.down pM Ta Ta Ta (rn hu hv),Td,Td⟩ ⟨LM (fun x=>some (Value.int .i64 x)) Td,Tm⟩
    ·
     simp only [dF] at Kz
     obtain rfl:k=i:=by omega
     refine au 7 ?_
     refine dD (fin Je rfl .nil .nil ?_)
     exact ⟨rfl,ys,jd,pM.done (.inl rfl),hm⟩
  ·
   simp only [dF] at jG
   refine au 7 ?_
   refine Ja rfl rfl (JX rfl is3 it151 (Hv Ta))<|Ja rfl rfl (V1 rfl rfl Ta (wb Ta))<|Ja rfl rfl (JX rfl is151 it3 (yq Ta))<|au 7 ?_
   refine Ja rfl rfl (J5 rfl rfl ((Ql Ta Ta).trans (show (((a+b)/2:Nat):Int)+m=(((a+b)/2+m:Nat):Int) by omega))) ?_
   obtain ⟨bX,Nz⟩:∃ x,x=(a+b)/2:=⟨_,rfl⟩
   rw [← Nz]
   have hmb:2*bX≤a+b∧a+b≤2*bX+1:=by omega
   refine au 9 ?_
   refine Xc (ι:=Nat×Nat) rfl (ks:=[0,1,2,3,4,18,19]) Tn (fun x=>[(20,.int .i64 (x.1:Int)),(21,.int .i64 (x.2:Int))]) (fun x w=>Mem w0 w (fun k=>k=g) [(g,.row 3 (xs.flatMap encI))]∧a≤x.1∧x.1≤x.2∧x.2≤bX∧x.2≤m∧bX+m≤x.1+b∧(x.1=a∨x.1+b=bX+m)∧(x.2=bX∨x.2=m)) ?_ (fun x w hM=>?_)
   ·
    refine au 7 ?_
    refine cd (fun Av=>?_) fun Av=>?_
    ·
     simp only [dT] at Av
     refine au 4 ?_
     refine Ja rfl rfl (QR rfl rfl ((Ql Ta Ta).trans (show ((bX+m:Nat):Int)-b=((bX+m-b:Nat):Int) by omega)))<|au 7 ?_
     first | exact Qt (bX+m-b,bX) ⟨(hm.pick [0] rfl),Td,Td,Td,Td,Td,.inr Td,.inl rfl⟩ Tm | exact Qt (a,m) ⟨(hm.pick [0] rfl),Td,Td,Td,Td,Td,.inl rfl,.inr rfl⟩ Tm
    ·
     simp only [dF] at Av
     refine au 10 ?_
     first | exact Qt (bX+m-b,bX) ⟨(hm.pick [0] rfl),Td,Td,Td,Td,Td,.inr Td,.inl rfl⟩ Tm | exact Qt (a,m) ⟨(hm.pick [0] rfl),Td,Td,Td,Td,Td,.inl rfl,.inr rfl⟩ Tm
   ·
    obtain ⟨lo,rr⟩:=x
    obtain ⟨hm,g1,g2,g3,g4,g5,g6,g7⟩:=hM
    simp only at hm g1 g2 g3 g4 g5 g6 g7 ⊢
    refine au 3 ?_
    refine Ja rfl rfl (QR rfl rfl ((Ql Ta Ta).trans (show ((bX+m:Nat):Int)-1=((bX+m-1:Nat):Int) by omega)))<|au 5 ?_
    refine Jg (ι:=Nat×Nat) rfl (ks:=[0,1,2,3,4,18,19,22]) Tn (fun x=>[(20,.int .i64 (x.1:Int)),(21,.int .i64 (x.2:Int))]) (fun x w=>Mem w0 w (fun k=>k=g) [(g,.row 3 (xs.flatMap encI))]∧lo≤x.1∧x.1≤x.2∧x.2≤rr∧(∀ c,lo≤c→c<x.1→Pl.ky key xs c≤Pl.ky key xs (bX+m-1-c))∧(∀ c,x.2≤c→c<rr→Pl.ky key xs (bX+m-1-c)≤Pl.ky key xs c)) (fun x=>x.2-x.1) (lo,rr) (⟨hm,LP _,g2,LP _,fun p h h8=>absurd h (by simp only at h8; omega),fun p h h8=>absurd h Td⟩) Tm (fun x w hM=>?_)
    obtain ⟨i,j⟩:=x
    obtain ⟨hm,ki,dY,uc,DR,DS⟩:=hM
    simp only at hm ki dY uc DR DS ⊢
    refine au 8 ?_
    refine cd (fun nP=>?_) fun nP=>?_
    ·
     simp only [dT] at nP
     obtain ⟨u,hu⟩:∃ y_,xs[bX+m-1-(i+j)/2]?=some y_:=⟨_,La Ta⟩
     have NZ:u∈xs:=Ld hu
     have huk:=Pl.du (key:=key) hu
     obtain ⟨v,hv⟩:∃ y_,xs[(i+j)/2]?=some y_:=⟨_,La Ta⟩
     have hvm:v∈xs:=Ld hv
     have hvk:=Pl.du (key:=key) hv
     have wC:xs[(((bX+m-1:Nat):Int)-(((i+j)/2:Nat):Int)).toNat]?=some u:=by rw [show (((bX+m-1:Nat):Int)-(((i+j)/2:Nat):Int)).toNat=bX+m-1-(i+j)/2 by omega]; exact hu
     refine au 8 ?_
     refine Ja rfl rfl (JX rfl is3 it151 (Hv Ta))<|Ja rfl rfl (V1 rfl rfl Ta (wb Ta))<|Ja rfl rfl (JX rfl is151 it3 (yq Ta))<|au 4 ?_
     refine dw [0,3,6,9,12,15,18,21,24,27,30,2,34,36,39] hm fun w hw ar hh hm=>?_
     refine au 6 ?_
     refine Ja rfl rfl (J3 rfl sc3.h (Rd.JL (ar.get (k:=0) rfl)).nd Jq wC rfl)<|au 3 ?_
     refine Ja rfl rfl (J3 rfl sc3.h (Rd.JL (ar.get (k:=0) rfl)).nd Jq hv rfl)<|au 1 ?_
     refine Qf rfl rfl rfl rfl hg (hf u v _ NZ hvm hm.to) fun v w hR=>?_
     obtain ⟨rfl,hE⟩:=hR
     refine ⟨trivial,?_⟩
     replace hm:=hm.ext hE
     refine au 4 ?_
     refine cd (fun jZ=>?_) fun jZ=>?_
     ·
      simp only [bE,dF] at jZ
      have iA:¬ key u<key v:=fun h=>jZ (dm.2 h)
      refine au 6 ?_
      exact next ((i+j)/2+1,j) Td ⟨(hm.pick [0] rfl),Td,Td,uc,fun c h h8=>by simp only at h h8 ⊢; have:=tX.le (p:=c) (q:=(i+j)/2) Ta Ta Ta; have:=yr.le (p:=bX+m-1-(i+j)/2) (q:=bX+m-1-c) Ta Ta Ta; omega,DS⟩ ⟨LM (fun x=>some (Value.int .i64 x)) Td,Tm⟩
     ·
      simp only [bF,dT] at jZ
      have aX:key u<key v:=dm.1 jZ
      refine au 5 ?_
      exact next (i,(i+j)/2) Td ⟨(hm.pick [0] rfl),ki,Td,Td,DR,fun c h h8=>by simp only at h h8 ⊢; have:=tX.le (p:=(i+j)/2) (q:=c) Ta Ta Ta; have:=yr.le (p:=bX+m-1-c) (q:=bX+m-1-(i+j)/2) Ta Ta Ta; omega⟩ Tm
    ·
     simp only [dF] at nP
     obtain rfl:i=j:=by omega
     refine au 9 ?_
     refine Ja rfl rfl (QR rfl rfl ((Ql Ta Ta).trans (show ((bX+m:Nat):Int)-i=((bX+m-i:Nat):Int) by omega))) ?_
     obtain ⟨e,he⟩:∃ x,x=bX+m-i:=⟨_,rfl⟩
     rw [← he]
     have I8:i+e=bX+m:=by omega
     have c1:a<i→e<b→Pl.ky key xs (i-1)≤Pl.ky key xs e:=fun h1 h2=>by
      have:=DR (i-1) Ta Ta
      rw [show bX+m-1-(i-1)=e by omega] at this
      exact this
     have c2:i<m→m<e→Pl.ky key xs (e-1)≤Pl.ky key xs i:=fun h1 h2=>by
      have:=DS i (LP _) Ta
      rw [show bX+m-1-i=e-1 by omega] at this
      exact this
     refine au 3 ?_
     refine Xc (ι:=List Int) rfl (ks:=[0,1,2,3,4,18,20,24]) Tn (fun zs=>[]) (fun zs w=>Mem w0 w (fun k=>k=g) [(g,.row 3 (zs.flatMap encI))]∧zs.Perm xs∧∀ p,zs[p]?=xs[Pl.jS i m e p]?) ?_ (fun zs w hM=>?_)
     ·
      refine au 12 ?_
      refine cd (fun N0=>?_) fun N0=>?_
      ·
       simp only [bA,dT] at N0
       refine au 6 ?_
       refine cT rfl rfl rfl (UW g cap xs i m e fi l2 _ (hm.get (k:=0) rfl) Ta hl) fun v w hR=>?_
       obtain ⟨rfl,zs,dS,DQ,ae⟩:=hR
       replace hm:=hm.Qv 0 rfl ae
       refine au 1 ?_
       first | exact Qt zs ⟨(hm.pick [0] rfl),dS,DQ⟩ Tm | exact Qt xs ⟨(hm.pick [0] rfl),.refl _,fun p=>by rw [DO Ta Ta]⟩ Tm
      ·
       simp only [bC,dF] at N0
       refine au 1 ?_
       first | exact Qt zs ⟨(hm.pick [0] rfl),dS,DQ⟩ Tm | exact Qt xs ⟨(hm.pick [0] rfl),.refl _,fun p=>by rw [DO Ta Ta]⟩ Tm
     ·
      obtain ⟨hm,dS,DQ⟩:=hM
      have cV:=dS.length_eq
      obtain ⟨t1,t2,t3,t4,t5⟩:=Pl.CU (g:=Pl.ky key zs) tX yr (s:=i) (e:=e) (bX:=bX) Ta Ta I8 c1 c2 fun p=>Pl.fg (DQ p)
      have yu:Pl.Wi xs zs a b:=⟨dS,fun p hp=>by rw [DQ,show Pl.jS i m e p=p by unfold Pl.jS; rw [LH Ta,LH Ta]]⟩
      refine Xc (ι:=List Int) rfl (ks:=[0,1,3,4,18,20,24]) Tn (fun ys=>[]) (fun ys w=>Mem w0 w (fun k=>k=g) [(g,.row 3 (ys.flatMap encI))]∧Pl.Wi zs ys a bX∧Pl.Sk (Pl.ky key ys) a bX) ?_ (fun ys w hM=>?_)
      ·
       refine au 12 ?_
       refine cd (fun N3=>?_) fun N3=>?_
       ·
        simp only [bA,dT] at N3
        refine au 6 ?_
        refine cT rfl rfl rfl (C.eqv (ih zs a i bX _ Ta (hm.get (k:=0) rfl) Ta Ta t1 t2 (fun p q w9 hp hq hx=>hf p q w9 (dS.subset hp) (dS.subset hq) (hm.to.trans hx))) (by rw [show zs.length=xs.length by omega])) fun v w hR=>?_
        obtain ⟨rfl,ys,jd,ew,ae⟩:=hR
        replace hm:=hm.Qv 0 rfl ae
        refine au 1 ?_
        first | exact Qt ys ⟨(hm.pick [0] rfl),jd,ew⟩ Tm | exact Qt zs ⟨(hm.pick [0] rfl),.refl _ _ _,(show i=a∨i=bX by omega).elim (fun h=>by rw [← h]; exact t2) (fun h=>by rw [← h]; exact t1)⟩ Tm
       ·
        simp only [bC,dF] at N3
        refine au 1 ?_
        first | exact Qt ys ⟨(hm.pick [0] rfl),jd,ew⟩ Tm | exact Qt zs ⟨(hm.pick [0] rfl),.refl _ _ _,(show i=a∨i=bX by omega).elim (fun h=>by rw [← h]; exact t2) (fun h=>by rw [← h]; exact t1)⟩ Tm
      ·
       obtain ⟨hm,jd,ew⟩:=hM
       have fz:=jd.1.length_eq
       have Ad:∀ p,bX≤p→Pl.ky key ys p=Pl.ky key zs p:=fun p hp=>Pl.fg (jd.2 p (.inr hp))
       have t3y:=t3.same (g:=Pl.ky key ys) fun p h1 _=>Ad p h1
       have t4y:=t4.same (g:=Pl.ky key ys) fun p h1 _=>Ad p Ta
       refine au 12 ?_
       refine cd (fun N4=>?_) fun N4=>?_
       ·
        simp only [bA,dT] at N4
        refine au 6 ?_
        refine cT rfl rfl rfl (C.eqv (ih ys bX e b _ Ta (hm.get (k:=0) rfl) Ta Ta t3y t4y (fun p q w9 hp hq hx=>hf p q w9 ((jd.1.trans dS).subset hp) ((jd.1.trans dS).subset hq) (hm.to.trans hx))) (by rw [show ys.length=xs.length by omega])) fun v w hR=>?_
        obtain ⟨rfl,vs,hvw,Fs,ae⟩:=hR
        replace hm:=hm.Qv 0 rfl ae
        refine au 1 ?_
        refine eK (fin Jc rfl .nil .nil ?_)
        first
        | exact ⟨rfl,vs,(yu.trans jd (LP _) Ta).trans hvw Ta (LP _),Pl.fA Ta Ta t5 jd ew hvw Fs,hm⟩
        | exact ⟨rfl,ys,(yu.trans jd (LP _) Ta).trans (.refl _ _ _) Ta (LP _),Pl.fA Ta Ta t5 jd ew (.refl _ _ _) ((show e=b∨e=bX by omega).elim (fun h=>by rw [← h]; exact t3y) (fun h=>by rw [← h]; exact t4y)),hm⟩
       ·
        simp only [bC,dF] at N4
        refine au 1 ?_
        refine eK (fin Jc rfl .nil .nil ?_)
        first
        | exact ⟨rfl,vs,(yu.trans jd (LP _) Ta).trans hvw Ta (LP _),Pl.fA Ta Ta t5 jd ew hvw Fs,hm⟩
        | exact ⟨rfl,ys,(yu.trans jd (LP _) Ta).trans (.refl _ _ _) Ta (LP _),Pl.fA Ta Ta t5 jd ew (.refl _ _ _) ((show e=b∨e=bX by omega).elim (fun h=>by rw [← h]; exact t3y) (fun h=>by rw [← h]; exact t4y)),hm⟩
theorem DT{g cap:Nat}{fi:FuncId}{l2:Ti}{key:Int→Int}(hg:JH Tryz.prog fi=true):∀ n,SmI g cap fi l2 key n
 | 0=>fun _ _ _ _ _ h=>absurd h (Nat.not_lt_zero _)
 | n+1=>fun xs a m b w0 hn hr hle hl h1 h2 hf=>UX g cap xs a m b n fi l2 key w0 hr hle hl h1 h2 hg hf (DT hg n) (Nat.le_of_lt_succ hn)
theorem UY(g cap:Nat)(xs:Tj)(fi:FuncId)(l2:Ti)(key:Int→Int)(w0:World)(hr:w0.heap[g]?=some (ag.row 3 (xs.flatMap encI)).Jd)(hl:xs.length≤1000)(hg:JH Tryz.prog fi=true)(hf:∀ x y w1,x∈xs→y∈xs→Ext (fun k=>k=g) w0 w1→C Tryz.prog fi (.int .i64 x::.int .i64 y::l2) w1 fun v w2=>v=.int .i64 (Pl.jY (key x) (key y))∧Ext No w1 w2):C Tryz.prog 154 [.slice (some ⟨g,0,none⟩) xs.length cap,.int .i64 (xs.length:Int),.func (.func fi) #[] ⟨l2⟩] w0 fun v w'=>v=.tuple ⟨[]⟩∧∃ ys:Tj,ys.Perm xs∧Pl.jC key ys 0 xs.length∧Mem w0 w' (fun k=>k=g) [(g,.row 3 (ys.flatMap encI))]:=by
 refine Vk Tryz.func154 rfl rfl rfl fun κ _ Je Jc=>?_
 have hm:=Mem.Vq hr
 refine au 14 ?_
 refine Jg (ι:=Nat×List Int) rfl (ks:=[0,1,2,6]) Tn (fun x=>[(7,.int .i64 ((20*x.1:Nat):Int)),(8,.int .i64 ((20*x.1+20:Nat):Int))]) (fun x w=>Mem w0 w (fun k=>k=g) [(g,.row 3 (x.2.flatMap encI))]∧x.2.Perm xs∧20*x.1≤xs.length∧∀ j,j<x.1→Pl.Sk (Pl.ky key x.2) (20*j) (20*j+20)) (fun x=>xs.length-20*x.1) (0,xs) (⟨hm,.refl _,LL _,fun j h=>absurd h (Nat.not_lt_zero _)⟩) Tm (fun x w hM=>?_)
 obtain ⟨k,ys⟩:=x
 obtain ⟨hm,hyp,dq,iB⟩:=hM
 simp only at hm hyp dq iB ⊢
 have fz:=hyp.length_eq
 refine au 8 ?_
 refine cd (fun ai=>?_) fun ai=>?_
 ·
  simp only [dT] at ai
  refine au 9 ?_
  refine cT rfl rfl rfl (C.eqv (Kx g cap ys (20*k) (20*k+20) fi l2 key _ (hm.get (k:=0) rfl) Ta Ta hg (fun p q w9 hp hq hx=>hf p q w9 (hyp.subset hp) (hyp.subset hq) (hm.to.trans hx))) (by rw [fz])) fun v w hR=>?_
  obtain ⟨rfl,zs,dS,j0,UZ,ae⟩:=hR
  have cV:=dS.length_eq
  replace hm:=hm.Qv 0 rfl ae
  refine au 15 ?_
  exact next (k+1,zs) Td ⟨(hm.pick [0] rfl),dS.trans hyp,Td,Pl.GU iB (j0.sk Ta) fun p h=>Pl.fg (UZ p (.inl h))⟩ ⟨rfl,LM (fun x=>some (Value.int .i64 x)) Td,Tm⟩
 ·
  simp only [dF] at ai
  refine au 11 ?_
  refine cT rfl rfl rfl (C.eqv (Kx g cap ys (20*k) (xs.length) fi l2 key _ (hm.get (k:=0) rfl) Ta Ta hg (fun p q w9 hp hq hx=>hf p q w9 (hyp.subset hp) (hyp.subset hq) (hm.to.trans hx))) (by rw [fz])) fun v w hR=>?_
  obtain ⟨rfl,zs,dS,j0,UZ,ae⟩:=hR
  have cV:=dS.length_eq
  replace hm:=hm.Qv 0 rfl ae
  refine au 3 ?_
  refine Jg (ι:=Nat×List Int) rfl (ks:=[0,1,2]) Tn (fun x=>[(6,.int .i64 (x.1:Int))]) (fun x w=>Mem w0 w (fun k=>k=g) [(g,.row 3 (x.2.flatMap encI))]∧x.2.Perm xs∧20≤x.1∧x.1≤2*xs.length+20∧Pl.Bl (Pl.ky key x.2) x.1 xs.length) (fun x=>xs.length-x.1) (20,zs) (⟨(hm.pick [0] rfl),dS.trans hyp,LP _,Td,Pl.M6 iB Ta (j0.sk Ta) fun p h=>Pl.fg (UZ p (.inl h))⟩) Tm (fun x w hM=>?_)
  obtain ⟨s,ys⟩:=x
  obtain ⟨hm,hyp,tX,yr,hs3⟩:=hM
  simp only at hm hyp tX yr hs3 ⊢
  have fz:=hyp.length_eq
  refine au 8 ?_
  refine cd (fun ao=>?_) fun ao=>?_
  ·
   simp only [dT] at ao
   refine au 6 ?_
   refine Ja rfl rfl (Vy rfl rfl ((Ql Ta Ta).trans (show (2:Int)*s=((2*s:Nat):Int) by omega)))<|au 6 ?_
   refine Jg (ι:=Nat×List Int) rfl (ks:=[0,1,2,6]) Tn (fun x=>[(7,.int .i64 (x.1:Int)),(8,.int .i64 ((x.1+2*s:Nat):Int))]) (fun x w=>Mem w0 w (fun k=>k=g) [(g,.row 3 (x.2.flatMap encI))]∧x.2.Perm xs∧x.1≤xs.length∧Pl.St (Pl.ky key x.2) s xs.length x.1) (fun x=>xs.length-x.1) (0,ys) (⟨hm,hyp,LL _,hs3.st⟩) ⟨rfl,(LM (fun x=>some (Value.int .i64 x)) Ta),trivial⟩ (fun x w hM=>?_)
   obtain ⟨a,ys⟩:=x
   obtain ⟨hm,hyp,N5,Bv⟩:=hM
   simp only at hm hyp N5 Bv ⊢
   have fz:=hyp.length_eq
   refine au 8 ?_
   refine cd (fun aD=>?_) fun aD=>?_
   ·
    simp only [dT] at aD
    have h2:=Bv.two Ta
    refine au 9 ?_
    refine Ja rfl rfl (J5 rfl rfl ((Ql Ta Ta).trans (show (a:Int)+s=((a+s:Nat):Int) by omega)))<|au 2 ?_
    refine cT rfl rfl rfl (C.eqv (DT hg (xs.length+1) ys (a) (a+s) (a+2*s) _ Ta (hm.get (k:=0) rfl) Ta Ta h2.1 (h2.2.mono (LP _) Ta) (fun p q w9 hp hq hx=>hf p q w9 (hyp.subset hp) (hyp.subset hq) (hm.to.trans hx))) (by rw [fz])) fun v w hR=>?_
    obtain ⟨rfl,zs,yu,j0,ae⟩:=hR
    have cV:=yu.1.length_eq
    replace hm:=hm.Qv 0 rfl ae
    refine au 16 ?_
    exact next (a+2*s,zs) Td ⟨(hm.pick [0] rfl),yu.1.trans hyp,Td,Bv.next j0 fun p h=>Pl.fg (yu.2 p h)⟩ ⟨rfl,LM (fun x=>some (Value.int .i64 x)) Td,Tm⟩
   ·
    simp only [dF] at aD
    refine au 5 ?_
    refine Xc (ι:=List Int) rfl (ks:=[0,1,2,6,7]) Tn (fun vs=>[]) (fun vs w=>Mem w0 w (fun k=>k=g) [(g,.row 3 (vs.flatMap encI))]∧vs.Perm xs∧Pl.Bl (Pl.ky key vs) (2*s) xs.length) ?_ (fun vs w hM=>?_)
    ·
     refine au 4 ?_
     refine Ja rfl rfl (J5 rfl rfl ((Ql Ta Ta).trans (show (a:Int)+s=((a+s:Nat):Int) by omega)))<|au 10 ?_
     refine cd (fun bg=>?_) fun bg=>?_
     ·
      simp only [dT] at bg
      have h2:=Bv.two Ta
      refine au 6 ?_
      refine cT rfl rfl rfl (C.eqv (DT hg (xs.length+1) ys (a) (a+s) (xs.length) _ Ta (hm.get (k:=0) rfl) Ta Ta h2.1 (h2.2.mono (LP _) Ta) (fun p q w9 hp hq hx=>hf p q w9 (hyp.subset hp) (hyp.subset hq) (hm.to.trans hx))) (by rw [fz])) fun v w hR=>?_
      obtain ⟨rfl,zs,yu,j0,ae⟩:=hR
      have cV:=yu.1.length_eq
      replace hm:=hm.Qv 0 rfl ae
      refine au 1 ?_
      first | exact Qt zs ⟨(hm.pick [0] rfl),yu.1.trans hyp,Bv.fin Ta j0 fun p h=>Pl.fg (yu.2 p (.inl h))⟩ Tm | exact Qt ys ⟨(hm.pick [0] rfl),hyp,Bv.fin Ta (Bv.one Ta) fun _ _=>rfl⟩ Tm
     ·
      simp only [dF] at bg
      refine au 1 ?_
      first | exact Qt zs ⟨(hm.pick [0] rfl),yu.1.trans hyp,Bv.fin Ta j0 fun p h=>Pl.fg (yu.2 p (.inl h))⟩ Tm | exact Qt ys ⟨(hm.pick [0] rfl),hyp,Bv.fin Ta (Bv.one Ta) fun _ _=>rfl⟩ Tm
    ·
     obtain ⟨hm,hvp,hvb⟩:=hM
     refine au 6 ?_
     exact next (2*s,vs) Td ⟨(hm.pick [0] rfl),hvp,Td,Td,hvb⟩ ⟨LM (fun x=>some (Value.int .i64 x)) Td,Tm⟩
  ·
   simp only [dF] at ao
   refine au 4 ?_
   refine eK (fin Jc rfl .nil .nil ?_)
   exact ⟨rfl,ys,hyp,(hs3.all Ta).dP,hm⟩
theorem U0(g cap:Nat)(xs:Tj)(fi:FuncId)(l2:Ti)(key:Int→Int)(w0:World)(hr:w0.heap[g]?=some (ag.row 3 (xs.flatMap encI)).Jd)(hl:xs.length≤1000)(hg:JH Tryz.prog fi=true)(hf:∀ x y w1,x∈xs→y∈xs→Ext (fun k=>k=g) w0 w1→C Tryz.prog fi (.int .i64 x::.int .i64 y::l2) w1 fun v w2=>v=.int .i64 (Pl.jY (key x) (key y))∧Ext No w1 w2):C Tryz.prog 120 [.slice (some ⟨g,0,none⟩) xs.length cap,.func (.func fi) #[] ⟨l2⟩] w0 fun v w'=>v=.tuple ⟨[]⟩∧∃ ys:Tj,ys.Perm xs∧Pl.jC key ys 0 xs.length∧Mem w0 w' (fun k=>k=g) [(g,.row 3 (ys.flatMap encI))]:=by
 refine Vk Tryz.func120 rfl rfl rfl fun κ _ Je Jc=>?_
 have hm:=Mem.Vq hr
 refine au 5 ?_
 refine cT rfl rfl rfl (UY g cap xs fi l2 key _ (hm.get (k:=0) rfl) hl hg (fun a b w9 ha hb hx=>hf a b w9 ha hb (hm.to.trans hx))) fun v w hR=>?_
 obtain ⟨rfl,zs,dS,j0,ae⟩:=hR
 replace hm:=hm.Qv 0 rfl ae
 refine au 1 ?_
 refine eK (fin Jc rfl .nil .nil ?_)
 exact ⟨rfl,zs,dS,j0,hm⟩
end Go.Proofs.YtaehgpeenaomcaaGreat
namespace Go.Pl
open Go Go.Cx Go.Proofs.YtaehgpeenaomcaaGreat
def uv(cs:List aa)(z:Int):Int:=match cs[z.toNat]? with | some c=>c.to | none=>0
end Go.Pl
namespace Go.Proofs.YtaehgpeenaomcaaGreat
open Go Go.Cx
theorem uw{cs:List aa}{z:Int}{c:aa}(h:cs[z.toNat]?=some c):Pl.uv cs z=c.to:=by unfold Pl.uv; rw [h]
theorem Aw(q:Tg)(cq:Nat)(cs:List aa)(a b:Int)(m1:Nat)(w0:World)(hq:Rd w0 q (cs.flatMap JM))(hb:w0.heap[m1]?=some (ag.row 24 [.slice q cs.length cq]).Jd)(N5:0≤a∧a<cs.length)(zW:0≤b∧b<cs.length):C Tryz.prog 121 [.int .i64 a,.int .i64 b,.pointer (some ⟨m1,0,none⟩)] w0 fun v w'=>v=.int .i64 (Pl.jY (Pl.uv cs a) (Pl.uv cs b))∧Ext No w0 w':=by
 obtain ⟨c,ao⟩:∃ y_,cs[a.toNat]?=some y_:=⟨_,La Ta⟩
 obtain ⟨d,Ho⟩:∃ y_,cs[b.toNat]?=some y_:=⟨_,La Ta⟩
 obtain ⟨qb,qo,rfl⟩:=hq.bS Jf Tb ao
 refine aH Tryz.func121 fun κ _ Je Jc hm=>?_
 refine au 6 ?_
 refine dw [0,3,6,9,12,15,18,21,24,27,2,31,33] hm fun w hw ar hh hm=>?_
 refine au 4 ?_
 refine Ja rfl rfl (Yr rfl sc3.h (hq.Jj ar.to).nd Jf ao rfl)<|au 4 ?_
 refine Ja rfl rfl (Yr rfl sc3.h (hq.Jj ar.to).nd Jf Ho rfl)<|au 1 ?_
 refine cA rfl rfl rfl (UU c.to d.to _) hm fun w hm=>au 5 ?_
 exact ⟨by rw [uw ao,uw Ho],hm.to⟩
theorem pN(q:Tg)(cq:Nat)(cs:List aa)(zs:Tj)(g m1 m3 yl:Nat)(I:Tf→Nat→World→Prop)(F0:Tf)(w0:World)(hz:∀ z∈zs,0≤z∧z<cs.length)(hl:zs.length≤4611686018427387903)
 (cK:∀ F i w,I F i w→w.heap[m3]?=some (ag.row 134 [.slice (some ⟨g,0,none⟩) zs.length zs.length]).Jd∧w.heap[m1]?=some (ag.row 24 [.slice q cs.length cq]).Jd∧w.heap[g]?=some (ag.row 3 (zs.flatMap encI)).Jd∧Rd w q (cs.flatMap JM))
 (jV:∀ F i w w' N,I F i w→Mem w w' No N→I (F++N) i w')
 (hy:∀ F i w z c,I F i w→zs[i]?=some z→cs[z.toNat]?=some c→Yw Tryz.prog yl [.int .i64 z,.agg ⟨[.int .i64 c.to,.int .i64 (Pl.aw c.cm)]⟩] w fun v w'=>v=.bool true∧I F (i+1) w') (h0:I F0 0 w0):C Tryz.prog 122 [.func (.yield yl) #[] #[],.pointer (some ⟨m3,0,none⟩),.pointer (some ⟨m1,0,none⟩)] w0 fun v w'=>v=.tuple ⟨[]⟩∧∃ F,I F zs.length w':=by
 refine aH Tryz.func122 fun κ _ Je Jc hm=>?_
 refine au 2 ?_
 refine Ja rfl rfl (Jh rfl sc134.h (Qo ((hm.to.same _ (Lb.1 (cK _ _ _ h0).1).1 id).trans (cK _ _ _ h0).1)) rfl)<|au 5 ?_
 refine Jg (ι:=List (Nat×ag)×Nat) rfl (ks:=[0,2,6,7]) Tn (fun x=>[(8,.int .i64 x.2)]) (fun x w=>I x.1 x.2 w∧x.2≤zs.length) (fun x=>zs.length-x.2) (F0++_,0) (⟨jV _ _ _ _ _ h0 hm,LL _⟩) Tm (fun x w hM=>?_)
 obtain ⟨hI,hk⟩:=hM
 have hm:=Mem.start w
 obtain ⟨hR1,Br,hR3,N6⟩:=cK _ _ _ hI
 refine au 6 ?_
 refine cd (fun ai=>?_) fun ai=>?_
 ·
  simp only [dT] at ai
  obtain ⟨z,bZ⟩:∃ y_,zs[x.2]?=some y_:=⟨_,La Ta⟩
  have Hw:=hz z (Ld bZ)
  obtain ⟨c,ao⟩:∃ y_,cs[z.toNat]?=some y_:=⟨_,La Ta⟩
  obtain ⟨qb,qo,rfl⟩:=N6.bS Jf Tb ao
  refine au 7 ?_
  refine Ja rfl rfl (J3 rfl sc3.h ((Rd.JL hR3).Jj hm.to).nt Jq bZ rfl)<|au 10 ?_
  refine Ja rfl rfl (JU rfl ag60.h (N6.Jj hm.to).nt Jf ao)<|cA rfl rfl rfl (Vd c.cm c.d.p c.d.cap _) hm fun w hm=>?_
  have yf:=jV _ _ _ _ _ hI hm
  refine XM rfl rfl rfl rfl (hy _ _ _ z c yf bZ ao) fun v w hR=>⟨trivial,?_⟩
  obtain ⟨rfl,Ag⟩:=hR
  refine au 11 ?_
  exact next (x.1++_,x.2+1) Td ⟨Ag,Td⟩ ⟨nx x.2,Tm⟩
 ·
  simp only [dF] at ai
  have b8:x.2=zs.length:=by omega
  refine au 4 ?_
  refine eK (fin Jc rfl .nil .nil ?_)
  exact ⟨rfl,_,by rw [← b8]; exact jV _ _ _ _ _ hI hm⟩
theorem ux:∀ n:Nat,Qn [Value.int .i64 0] n=(List.replicate n (0:Int)).flatMap encI
 | 0=>rfl
 | n+1=>by
  rw [List.replicate_succ,Lk,← ux n]
  rfl
theorem Hy{k n:Nat}(h:k<n):(Pl.ids k++List.replicate (n-k) 0).set ((k:Int).toNat) (k:Int)=Pl.ids (k+1)++List.replicate (n-(k+1)) 0:=by
 rw [LD,List.set_append_right _ _ (by rw [Pl.Qj]; exact LP _),Pl.Qj,Nat.sub_self,Pl.tH,Lp]
 congr 1
 obtain ⟨m,hm⟩:∃ m,n-k=m+1:=⟨n-k-1,Ta⟩
 rw [hm,List.replicate_succ,show n-(k+1)=m by omega]
 rfl
theorem gY{n:Nat}{z:Int}(h:z∈Pl.ids n):0≤z∧z<n:=by
 unfold Pl.ids at h
 obtain ⟨i,hi,rfl⟩:=Ln.1 h
 have:=List.mem_range.1 hi
 omega
theorem uy(q:Tg)(cq:Nat)(cs:List aa)(w0:World)(hq:Rd w0 q (cs.flatMap JM))(hl:cs.length≤100):C Tryz.prog 94 [.slice q cs.length cq] w0 fun v w'=>∃ (cD m3 m1:Nat) (zs:Tj),v=.func (.func 122) #[] ⟨[.pointer (some ⟨m3,0,none⟩),.pointer (some ⟨m1,0,none⟩)]⟩∧zs.Perm (Pl.ids cs.length)∧Pl.jC (Pl.uv cs) zs 0 cs.length∧Mem w0 w' No [(m3,.row 134 [.slice (some ⟨cD,0,none⟩) cs.length cs.length]),(cD,.row 3 (zs.flatMap encI)),(m1,.row 24 [.slice q cs.length cq])]:=by
 refine aH Tryz.func94 fun κ _ Je Jc hm=>?_
 refine au 2 ?_
 refine bT hm fun m1 w hm=>?_
 refine au 7 ?_
 refine vN rfl rfl rfl rfl sl134.h z3.h rfl Ta Ta Ta hm trivial fun cD w hg_o az hm hh=>?_
 rw [ux] at hm
 refine aT hm fun m3 w hm=>?_
 refine st hm 0 fun w hm=>?_
 refine au 11 ?_
 refine Jg (ι:=Nat) rfl (ks:=[1,2,3,9]) Tn (fun k=>[(10,.int .i64 (k:Int))]) (fun k w=>Mem w0 w No [(m3,.row 134 [.slice (some ⟨cD,0,none⟩) cs.length cs.length]),(cD,.row 3 ((Pl.ids k++List.replicate (cs.length-k) (0:Int)).flatMap encI)),(m1,.row 24 [.slice q cs.length cq])]∧k≤cs.length) (fun k=>cs.length-k) 0 (⟨(hm.pick [0,1,2] rfl),LL _⟩) Tm (fun k w hM=>?_)
 obtain ⟨hm,hk⟩:=hM
 refine au 6 ?_
 refine cd (fun ai=>?_) fun ai=>?_
 ·
  simp only [dT] at ai
  refine au 15 ?_
  refine Vi rfl rfl rfl rfl sz3 rfl hm 1 rfl (Nat.ble_eq_true_of_le (by simp only [ff,Lc,Pl.Qj,List.length_replicate,Li,LA]; omega)) fun w hm=>?_
  rw [XV (by simp only [Lc,Pl.Qj,List.length_replicate]; omega),Hy Ta] at hm
  refine au 7 ?_
  refine next (k+1) Ta ⟨(hm.pick [0,1,2] rfl),Ta⟩ ⟨nx k,Tm⟩
 ·
  simp only [dF] at ai
  have b8:k=cs.length:=by omega
  rw [b8,Nat.sub_self,List.replicate_zero,Lq] at hm
  refine au 9 ?_
  refine cT rfl rfl rfl (C.eqv (U0 cD cs.length (Pl.ids cs.length) 121 [.pointer (some ⟨m1,0,none⟩)] (Pl.uv cs) _ (hm.get (k:=1) rfl) (by rw [Pl.Qj]; omega) go121 (fun a b w9 ha hb hx=>Aw q cq cs a b m1 w9 ((hq.Jj hm.to).Yu hx (hm.Mz hq 1 rfl)) ((hx.same _ (Lb.1 (hm.get (k:=2) rfl)).1 (hm.ne 2 1 rfl rfl rfl)).trans (hm.get (k:=2) rfl)) (gY ha) (gY hb))) (by rw [Pl.Qj])) fun v w hR=>?_
  obtain ⟨rfl,zs,dS,j0,ae⟩:=hR
  replace hm:=hm.Qv 1 rfl ae
  rw [Pl.Qj] at j0
  refine au 10 ?_
  exact ⟨cD,m3,m1,zs,rfl,dS,j0,hm⟩
theorem yv(cs:List aa):Pl.uv cs=Pl.Zi (cs.map aa.cm):=by
 funext z
 unfold Pl.uv Pl.Zi
 rw [Lt]
 cases cs[z.toNat]? <;> rfl
theorem Hz(oo nn:Int)(q:Tg)(cq:Nat)(cs:List aa)(w0:World)(hq:Rd w0 q (cs.flatMap JM))(hl:cs.length≤100)(hv:Pl.VD oo nn (cs.map aa.cm)):C Tryz.prog 92 [.slice q cs.length cq] w0 fun v w'=>v=.tuple ⟨[.int .i64 nn,.bool false]⟩∧Ext No w0 w':=by
 refine Zt Tryz.func92 rfl rfl rfl fun κ _ Je Jc=>?_
 have hm:=Mem.start w0
 refine au 2 ?_
 refine aT hm fun m1 w hm=>?_
 refine aT hm fun m2 w hm=>?_
 refine au 4 ?_
 refine aT hm fun m3 w hm=>?_
 refine aT hm fun m4 w hm=>?_
 refine st hm 1 fun w hm=>?_
 refine st hm 0 fun w hm=>?_
 refine au 6 ?_
 refine cT rfl rfl rfl (uy q cq cs _ (hq.Jj hm.to) hl) fun v w hR=>?_
 obtain ⟨cD,qa,qb,zs,rfl,dS,j0,ae⟩:=hR
 replace hm:=hm.Jt ae
 rw [yv] at j0
 have cV:zs.length=cs.length:=by rw [dS.length_eq,Pl.Qj]
 have wO:zs.Perm (Pl.ids (cs.map aa.cm).length):=by rw [Lj]; exact dS
 have rq:Pl.jC (Pl.Zi (cs.map aa.cm)) zs 0 (cs.map aa.cm).length:=by rw [Lj]; exact j0
 refine au 3 ?_
 refine VJ rfl rfl go122 hm fun a_ fn r0 l w LB jF dV Km Kn hm=>C.mono (pN q cq cs zs cD qb qa l (fun F i w=>Mem w0 w No ((l,LB .ready none)::(r0,eh (some []))::(qa,.row 134 [.slice (some ⟨cD,0,none⟩) cs.length cs.length])::(cD,.row 3 (zs.flatMap encI))::(qb,.row 24 [.slice q cs.length cq])::(m4,.row 3 [.int .i64 (-1)])::(m3,.row 3 [.int .i64 (Pl.dx (cs.map aa.cm) (zs.take i))])::(m2,.row 4 [.bool false])::(m1,.row 3 [.int .i64 0])::F)) [] _ (fun z hz=>gY (dS.subset hz)) Ta
  (by intro F i w hm; rw [cV]; exact ⟨hm.get (k:=2) rfl,hm.get (k:=4) rfl,hm.get (k:=3) rfl,hq.Jj hm.to⟩)
  (by intro F i w w' N hm hc; exact Mem.oX (N1:=[]) hm hc)
  (fun F i w z c hm bZ ao=>?_) hm) (fun v w hR=>?_)
 ·
  subst jF
  have SN:=Pl.qU hv wO rq i z bZ
  have fB:=Pl.Ve (cs:=(cs.map aa.cm)) bZ
  have ht1:Pl.Zi (cs.map aa.cm) z=c.to:=by unfold Pl.Zi; rw [iZ ao]; rfl
  have I':Pl.zZ (cs.map aa.cm) z=Pl.aw c.cm:=by unfold Pl.zZ; rw [iZ ao]
  have b6:=Pl.Jl (Pl.Jw (hv.one c.cm (Ln.2 ⟨c,Ld ao,rfl⟩))).1
  rw [ht1] at SN
  rw [I',← SN] at fB
  have k2:c.cm.to=c.to:=rfl
  rw [k2] at b6
  refine Yw.of dV (hm.get (k:=0) rfl) rfl rfl<|au 1 ?_
  refine aT hm fun m5 w hm=>?_
  refine st hm 0 fun w hm=>?_
  refine au 1 ?_
  refine Xf hm 1 rfl fun w hm=>XC rfl<|Qb rfl<|Qb rfl<|JT (.pure 0 (.pure 1 (.pure 2 (.pure 3 .done)))) Te<|Ja rfl rfl (Jv rfl fo32_0.h)<|Ja rfl rfl (Jh rfl sc3.h (hm.nt 0 rfl) rfl)<|Ja rfl rfl (Jh rfl sc3.h (hm.nt 7 rfl) rfl)<|Ja rfl rfl (JA (c:=false) (VO rfl rfl) (LN Ta))<|Qc<|QV<|Ye rfl rfl rfl<|j8 rfl<|QV<|Qb rfl<|Qb rfl<|JT (.pure 0 (.pure 1 (.pure 2 (.pure 3 (.pure 4 (.pure 5 (.pure 6 (.pure 7 .done)))))))) Te<|Ja rfl rfl (Jv rfl fo32_0.h)<|Ja rfl rfl (Jh rfl sc3.h (hm.nt 0 rfl) rfl)<|Ja rfl rfl (Jh rfl sc3.h (hm.nt 7 rfl) rfl)<|Ja rfl rfl (JA (c:=false) (XE rfl rfl) (LN Ta))<|au 11 ?_
  refine cA rfl rfl rfl (QC c.to (Pl.aw c.cm) _ (by simp only [Pl.aA]; omega)) hm fun w hm=>st hm 7 fun w hm=>?_
  refine au 2 ?_
  refine gz hm 1 rfl fun w hm=>⟨rfl,?_⟩
  rw [fB]
  exact (hm.Jp [1,2,3,4,5,6,7,8,9] 10 rfl)
 ·
  subst jF
  obtain ⟨rfl,F,hm⟩:=hR
  rw [Lv,Pl.tO hv wO rq] at hm
  refine ⟨.ready,none,nofun,hm.get (k:=0) rfl,fun w4 oh=>?_⟩
  replace hm:=Xw hm oh
  refine au 6 ?_
  refine Ja rfl rfl (JA (c:=false) (Rz rfl rfl) Tb)<|au 8 ?_
  refine st hm 7 fun w hm=>?_
  refine st hm 6 fun w hm=>?_
  refine au 3 ?_
  refine dD (ly Je rfl hm 0 rfl .more fun w hm=>⟨(.cell rfl (JN sc3.h (hm.get (k:=7) rfl) rfl) (.cell rfl (JN sc4.h (hm.get (k:=6) rfl) rfl) .nil)),?_⟩)
  exact ⟨rfl,hm.to⟩
theorem HA{cs:List aa}{zs:Tj}{i:Nat}{z:Int}{c:aa}(h:zs[i]?=some z)(hc:cs[z.toNat]?=some c):((zs.take (i+1)).filterMap fun z=>cs[z.toNat]?)=((zs.take i).filterMap fun z=>cs[z.toNat]?)++[c]:=by
 rw [LC,h,List.filterMap_append]
 simp [hc]
theorem ru{cs:List aa}{zs:Tj}{c:aa}(h:c∈zs.filterMap fun z=>cs[z.toNat]?):c∈cs:=by
 obtain ⟨z,_,hz⟩:=List.mem_filterMap.1 h
 exact Ld hz
theorem wP{cs:List aa}{zs:Tj}:(zs.filterMap fun z=>cs[z.toNat]?).length≤zs.length:=List.length_filterMap_le _ _
theorem uz(oo nn:Int)(H:Nat→UInt8)(q:Tg)(cq:Nat)(cs:List aa)(w0:World)(hq:Rd w0 q (cs.flatMap JM))(hl:cs.length≤100)(aq:∀ c∈cs,Q1 w0 c)(cO:∀ c∈cs,c.d.bs.length≤140737488355328)(hv:Pl.VD oo nn (cs.map aa.cm)):C Tryz.prog 62 [.agg ⟨aZ oo nn H q cs.length cq⟩] w0 fun v w'=>v=.agg ⟨[.int .i64 0,.int .i64 0]⟩∧Ext No w0 w':=by
 have pB:=hv.lens
 have fF:∀ c∈cs,Pl.single oo nn c.cm=0:=fun c hc=>hv.one c.cm (Ln.2 ⟨c,hc,rfl⟩)
 refine aH Tryz.func62 fun κ _ Je Jc hm=>?_
 refine au 2 ?_
 refine bT hm fun m1 w hm=>?_
 refine aT hm fun m2 w hm=>?_
 refine au 7 ?_
 refine cA rfl rfl rfl (C.as (v:=.bool true) (pK oo _ (by simp only [Pl.aA]; omega)) (LM Value.bool (Pl.VU.2 Ta))) hm fun w hm=>au 4 ?_
 refine cA rfl rfl rfl (C.as (v:=.bool true) (pK nn _ (by simp only [Pl.aA]; omega)) (LM Value.bool (Pl.VU.2 Ta))) hm fun w hm=>au 17 ?_
 refine Jg (ι:=Nat) rfl (ks:=[1,2,20,21]) Tn (fun k=>[(22,.int .i64 (k:Int))]) (fun k w=>Mem w0 w No [(m2,.row 46 [.int .i64 0,.int .i64 0]),(m1,.row 26 (aZ oo nn H q cs.length cq))]∧k≤cs.length) (fun k=>cs.length-k) 0 (⟨(hm.pick [0,1] rfl),LL _⟩) Tm (fun k w hM=>?_)
 obtain ⟨hm,hk⟩:=hM
 refine au 6 ?_
 refine cd (fun ao=>?_) fun ao=>?_
 ·
  simp only [dT] at ao
  obtain ⟨c,hi⟩:∃ y_,cs[k]?=some y_:=⟨_,La Ta⟩
  obtain ⟨qb,qo,rfl⟩:=hq.bS Jf Tb hi
  have dH:=aq c (Ld hi)
  have hbc:=cO c (Ld hi)
  have bM:=fF c (Ld hi)
  refine au 8 ?_
  refine Ja rfl rfl (JU rfl ag60.h (hq.Jj hm.to).nt Jf hi)<|aT hm fun m3 w hm=>?_
  refine au 1 ?_
  refine st hm 0 fun w hm=>?_
  refine au 4 ?_
  refine Ja rfl rfl (Jm (s:=67) (vs:=aZ oo nn H _ cs.length cq) rfl ag26.h (hm.nt 2 rfl) rfl)<|au 1 ?_
  refine cA rfl rfl rfl (C.as (v:=.int .i64 0) (DN oo nn H _ cs.length cq c.cm c.d.p c.d.cap _ dH.cm (by have:c.cm.bs.length=c.d.bs.length:=rfl; omega)) (by rw [bM])) hm fun w hm=>au 6 ?_
  refine Ja rfl rfl (JA (c:=false) (XD rfl rfl) Tb)<|au 10 ?_
  refine next (k+1) Ta ⟨(hm.pick [1,2] rfl),Ta⟩ ⟨nx k,Tm⟩
 ·
  simp only [dF] at ao
  refine au 9 ?_
  refine cA rfl rfl rfl (Hz oo nn _ cq cs _ (hq.Jj hm.to) hl hv) hm fun w hm=>au 22 ?_
  refine Ja rfl rfl (JA (c:=false) (VO rfl rfl) (LN (Int.lt_irrefl _)))<|au 8 ?_
  refine st hm 0 fun w hm=>?_
  refine au 4 ?_
  exact ⟨rfl,hm.to⟩
theorem DU(oo nn:Int)(H:Nat→UInt8)(q:Tg)(cq:Nat)(cs:List aa)(w0:World)(hq:Rd w0 q (cs.flatMap JM))(hl:cs.length≤100)(aq:∀ c∈cs,Q1 w0 c)(cO:∀ c∈cs,c.d.bs.length≤140737488355328)(hv:Pl.VD oo nn (cs.map aa.cm)):C Tryz.prog 63 [.agg ⟨aZ oo nn H q cs.length cq⟩] w0 fun v w'=>∃ (zs:Tj) (ys:List aa) (p:Tg) (n cap g:Nat) (b:ag) (B:Tf),v=.agg ⟨aZ oo nn H p n cap⟩∧Acc 60 5 p n cap (ys.flatMap JM) g b∧ys.map aa.cm=(zs.filterMap fun z=>cs[z.toNat]?).map aa.cm∧(∀ y∈ys,bh B 5 y.d)∧zs.Perm (Pl.ids cs.length)∧Pl.jC (Pl.Zi (cs.map aa.cm)) zs 0 cs.length∧Mem w0 w' No ((g,b)::B):=by
 refine Zt Tryz.func63 rfl rfl rfl fun κ _ Je Jc=>?_
 have hm:=Mem.start w0
 refine au 2 ?_
 refine bT hm fun m1 w hm=>?_
 refine aT hm fun m2 w hm=>?_
 refine au 4 ?_
 refine aT hm fun m3 w hm=>?_
 replace hm:=hm.JP
 have ay:=Acc.nil 60 5 none 0
 refine au 7 ?_
 refine cT rfl rfl rfl (uy q cq cs _ (hq.Jj hm.to) hl) fun v w hR=>?_
 obtain ⟨cD,qa,qb,zs,rfl,dS,j0,ae⟩:=hR
 replace hm:=hm.Jt ae
 rw [yv] at j0
 have cV:zs.length=cs.length:=by rw [dS.length_eq,Pl.Qj]
 have wO:zs.Perm (Pl.ids (cs.map aa.cm).length):=by rw [Lj]; exact dS
 have rq:Pl.jC (Pl.Zi (cs.map aa.cm)) zs 0 (cs.map aa.cm).length:=by rw [Lj]; exact j0
 refine au 3 ?_
 refine VJ rfl rfl go122 hm fun a_ fn r0 l w LB jF dV Km Kn hm=>C.mono (pN q cq cs zs cD qb qa l (fun F i w=>∃ (p:Tg) (n cap g:Nat) (b:ag),Mem w0 w No ((l,LB .ready none)::(r0,eh (some []))::(qa,.row 134 [.slice (some ⟨cD,0,none⟩) cs.length cs.length])::(cD,.row 3 (zs.flatMap encI))::(qb,.row 24 [.slice q cs.length cq])::(g,b)::(m3,.row 24 [.slice p n cap])::(m2,.row 26 (aZ 0 0 (fun _=>0) none 0 0))::(m1,.row 26 (aZ oo nn H q cs.length cq))::F)∧Acc 60 5 p n cap (((zs.take i).filterMap fun z=>cs[z.toNat]?).flatMap JM) g b∧n=i) [] _ (fun z hz=>gY (dS.subset hz)) Ta
  (by rintro F i w ⟨p,n,cap,g,b,hm,-⟩; rw [cV]; exact ⟨hm.get (k:=2) rfl,hm.get (k:=4) rfl,hm.get (k:=3) rfl,hq.Jj hm.to⟩)
  (by rintro F i w w' N ⟨p,n,cap,g,b,hm,ha,hn⟩ hc; exact ⟨p,n,cap,g,b,Mem.oX (N1:=[]) hm hc,ha,hn⟩)
  (fun F i w z c hI bZ ao=>?_) ⟨_,_,_,_,_,hm,ay,rfl⟩) (fun v w hR=>?_)
 ·
  subst jF
  obtain ⟨bU,nm,aB,cQ,cL,hm,ay,hnu⟩:=hI
  obtain ⟨U1,qo,rfl⟩:=hq.bS Jf Tb ao
  have hzb:=gY (dS.subset (Ld bZ))
  have KA:=(Le.1 bZ).1
  refine Yw.of dV (hm.get (k:=0) rfl) rfl rfl<|au 3 ?_
  refine Xf hm 0 rfl fun w hm=>au 1 ?_
  refine dw [0,3,6,9,12,15,19,2,22,25] hm fun w hw ar hh hm=>?_
  refine Ja rfl rfl (Jh rfl sc24.h (ar.nd 6 rfl id) rfl)<|Ja rfl rfl (Jv rfl fo26_4.h)<|Ja rfl rfl (Jh rfl sc24.h (ar.nd 8 rfl id) rfl)<|Ja rfl rfl (Jx rfl)<|Ja rfl rfl (Qy rfl rfl sl24.h rfl Ta Ta)<|Ja rfl rfl (JU rfl ag60.h (hq.Jj ar.to).nd Jf ao)<|Jb (l:=[_,_,_,_,_]) rfl rfl sl24.h z60.h rfl rfl rfl rfl rfl rfl rfl hm hh fun m4 w mV hm hh=>au 1 ?_
  refine Jy rfl rfl rfl rfl rfl rfl sl24.h sl24.h z60.h rfl rfl (Rd.JL (hm.get (k:=0) rfl)) rfl ay hm 6 rfl Ta Ta fun bU aB cQ cL w ay hm=>st hm 7 fun w hm=>?_
  refine au 2 ?_
  refine gz hm 1 rfl fun w hm=>⟨rfl,bU,_,aB,cQ,cL,(hm.Jp [1,2,3,4,5,6,7,8,9] 10 rfl),ay.to ?_,Ta⟩
  rw [HA bZ ao,Lh]; simp only [Lk,LY,Lq]; rfl
 ·
  subst jF
  obtain ⟨rfl,F,bU,nm,aB,cQ,cL,hm,ay,hnu⟩:=hR
  rw [Lv] at ay
  obtain rfl:=ay.QB Jf Tb
  refine ⟨.ready,none,nofun,hm.get (k:=0) rfl,fun w4 oh=>?_⟩
  replace hm:=Xw hm oh
  refine au 4 ?_
  refine Ja rfl rfl (Jm (s:=67) (vs:=aZ oo nn H _ _ _) rfl ag26.h (hm.nt 7 rfl) rfl)<|au 1 ?_
  have cM:=(nl oo nn H q cs.length cq bU aB (zs.filterMap fun z=>cs[z.toNat]?) _ (ay.rd hm 4 rfl) (fun c hc=>Q1.mono (aq c (ru hc)) hm.to) (by have:=wP (cs:=cs) (zs:=zs); omega) (fun c hc=>cO c (ru hc)))
  refine cT rfl rfl rfl cM fun v w hR=>?_
  obtain ⟨fk,aK,dE,aj,aI,aF,ry,rfl,ah,cY,dy,ae⟩:=hR
  replace hm:=hm.VZ ae
  obtain rfl:=ah.QB Jf Tb
  refine st hm 7 fun w hm=>?_
  replace hm:=Xu hm rfl
  refine au 3 ?_
  refine dD (ly Je rfl hm 1 rfl .one fun w hm=>⟨(.cell rfl (Ju (vs:=aZ oo nn H _ _ _) ag26.h (hm.get (k:=7) rfl) rfl) .nil),?_⟩)
  exact ⟨zs,fk,_,_,_,_,_,F++ry,rfl,ah,cY,fun y hy=>(dy y hy).right,dS,by rw [Lj] at rq; exact rq,(hm.Jp [0] 9 rfl)⟩
theorem db(r:Tg)(cr:Nat)(f:Th)(s:Tg)(cs2:Nat)(g:Th)(q:Tg)(cq:Nat)(cs:List aa)(w0:World)(hf:Rd w0 r (f.flatMap Jk))(bY:f.length≤1000000)(hg:Rd w0 s (g.flatMap Jk))(P1:g.length≤1000000)(hq:Rd w0 q (cs.flatMap JM))(aq:∀ c∈cs,Q1 w0 c)(hl:cs.length≤1000000)(cO:∀ c∈cs,c.d.bs.length≤140737488355328):C Tryz.prog 11 [.slice r f.length cr,.slice s g.length cs2,.slice q cs.length cq] w0 fun v w'=>∃ (ys:List aa) (p:Tg) (n cap gg:Nat) (b:ag) (B:Tf),v=.agg ⟨aZ f.length g.length (Pl.hh (Pl.bu f) (Pl.bu g)) p n cap⟩∧Acc 60 5 p n cap (ys.flatMap JM) gg b∧ys.map aa.cm=cs.map aa.cm∧(∀ y∈ys,bh B 5 y.d)∧Mem w0 w' No ((gg,b)::B):=by
 refine aH Tryz.func11 fun κ _ Je Jc hm=>?_
 refine au 2 ?_
 refine aT hm fun m1 w hm=>?_
 refine au 9 ?_
 refine Jb (l:=[_]) rfl rfl sl88.h z22.h rfl rfl rfl rfl rfl rfl rfl hm trivial fun m2 w bo hm hh=>cA rfl rfl rfl (C.as (v:=.agg ⟨hV (Pl.bu f)⟩) (Hd _ 1 [⟨r,cr,f⟩] _ (Rd.JL (hm.get (k:=0) rfl)) (by intro s9 eT; rw [Lf.1 eT]; exact hf.Jj hm.to) Tc (by simp only [Lk,LY,Lq]; omega)) (by simp only [Lk,LY,Lq]; rw [gS (Pl.Qz _)])) hm fun w hm=>au 1 ?_
 refine Jb (l:=[_]) rfl rfl sl88.h z22.h rfl rfl rfl rfl rfl rfl rfl hm trivial fun m3 w dX hm hh=>cA rfl rfl rfl (C.as (v:=.agg ⟨hV (Pl.bu g)⟩) (Hd _ 1 [⟨s,cs2,g⟩] _ (Rd.JL (hm.get (k:=0) rfl)) (by intro s9 eT; rw [Lf.1 eT]; exact hg.Jj hm.to) Tc (by simp only [Lk,LY,Lq]; omega)) (by simp only [Lk,LY,Lq]; rw [gS (Pl.Qz _)])) hm fun w hm=>Ja rfl rfl (mT (cs:=aZ f.length g.length (Pl.hh (Pl.bu f) (Pl.bu g)) none 0 0) z26.h ft26.h rfl rfl rfl Te Te)<|au 1 ?_
 have cM:=nl f.length g.length (Pl.hh (Pl.bu f) (Pl.bu g)) none 0 0 q cq cs _ (hq.Jj hm.to) (fun c hc=>Q1.mono (aq c hc) hm.to) hl cO
 refine cT rfl rfl rfl cM fun v w hR=>?_
 obtain ⟨fk,aK,dE,aj,aI,aF,ry,rfl,ah,cY,dy,ae⟩:=hR
 replace hm:=hm.VZ ae
 obtain rfl:=ah.QB Jf Tb
 refine st hm 3 fun w hm=>?_
 replace hm:=Xu hm rfl
 refine au 3 ?_
 refine dD (fin Je rfl (.cell rfl (Ju (vs:=aZ f.length g.length (Pl.hh (Pl.bu f) (Pl.bu g)) _ _ _) ag26.h (hm.get (k:=3) rfl) rfl) .nil) .one ?_)
 exact ⟨fk,_,_,_,_,_,ry,rfl,ah,cY,dy,(hm.Jp [0] 4 rfl)⟩
theorem pP{w0 w:World}{X:Bs}{A Z B:Tf}{u8:Nat}{s:SB}(hm:Mem w0 w X (A++(Z++B)))(h:bh B u8 s)(bO:s.bs.flatMap Jk≠[]):∀ ad,s.p=some ad→¬ Mn (ak Z) ad.block:=fun ad e hz=>by
 obtain ⟨g,b,cR,ha⟩:=h
 have hn:s.bs.length≠0:=fun h0=>bO (by rw [Ll.1 h0]; rfl)
 have hp:=ha.ptr Ta
 rw [e] at hp
 cases hp
 obtain ⟨h1,h2⟩:=ha.GD bO
 obtain ⟨c,hc,KB⟩:=JD.1 hz
 have hd:=hm.nodup
 rw [Qi,Qi] at hd
 have Ak:=(Kg.1 hd).2.1
 have:=(Kg.1 Ak).2.2 g (JD.2 ⟨c,hc,KB⟩) g (JD.2 ⟨b,cR,h2⟩)
 exact this rfl
theorem yw(cs:List aa)(zs:Tj):(zs.filterMap fun z=>cs[z.toNat]?).map aa.cm=Pl.Xd (cs.map aa.cm) zs:=by
 unfold Pl.Xd
 rw [List.map_filterMap]
 congr 1
 funext z
 rw [Lt]
theorem np{f:Th}{ys:List aa}{k:Nat}{y:aa}(h:ys[k]?=some y):((ys.take (k+1)).map aa.cm).flatMap (Pl.dt f)=((ys.take k).map aa.cm).flatMap (Pl.dt f)++Pl.dt f y.cm:=by
 rw [LC,h,Lx,Lh]
 simp
theorem DV(oo nn:Int)(q:Tg)(cq:Nat)(cs:List aa)(w0:World)(hq:Rd w0 q (cs.flatMap JM))(hl:cs.length≤100)(aq:∀ c∈cs,Q1 w0 c)(cO:∀ c∈cs,c.d.bs.length≤140737488355328)(hv:Pl.VD oo nn (cs.map aa.cm))(r:Tg)(cr:Nat)(f:Th)(hf:Rd w0 r (f.flatMap Jk))(bY:f.length≤cr∧f.length≤1000000)(eD:cr≠0→∀ ad,r=some ad→ad.spot=none)(ho:oo=f.length)(hn:nn≤1000000):C Tryz.prog 43 [.slice r f.length cr,.agg ⟨aZ oo nn (Pl.hh (Pl.bu f) (Pl.bu (Pl.bQ f (cs.map aa.cm) nn.toNat))) q cs.length cq⟩] w0 fun v w'=>v=.agg ⟨[.int .i64 0,.int .i64 0]⟩∧Ext No w0 w':=by
 have pB:=hv.lens
 have fF:∀ c∈cs,Pl.single oo nn c.cm=0:=fun c hc=>hv.one c.cm (Ln.2 ⟨c,hc,rfl⟩)
 refine aH Tryz.func43 fun κ _ Je Jc hm=>?_
 refine au 2 ?_
 refine bT hm fun m1 w hm=>?_
 refine aT hm fun m2 w hm=>?_
 refine au 5 ?_
 refine Ja rfl rfl (Jm (s:=67) (vs:=aZ oo nn (Pl.hh (Pl.bu f) (Pl.bu (Pl.bQ f (cs.map aa.cm) nn.toNat))) _ cs.length cq) rfl ag26.h (hm.nt 1 rfl) rfl)<|cA rfl rfl rfl (uz oo nn _ q cq cs _ (hq.Jj hm.to) hl (fun c hc=>Q1.mono (aq c hc) hm.to) cO hv) hm fun w hm=>aT hm fun m3 w hm=>?_
 refine st hm 0 fun w hm=>?_
 refine au 6 ?_
 refine Ja rfl rfl (JA (c:=false) (jo rfl rfl iii46) Tb)<|au 13 ?_
 refine Ja rfl rfl (JA (c:=false) (XD rfl rfl) (LN (fun h=>h ho)))<|au 5 ?_
 refine dw [0,9,12,4,7,15,18] hm fun w hw ar hh hm=>?_
 refine au 2 ?_
 refine Ja rfl rfl (Jm (s:=32) (vs:=hV (Pl.bu f)) rfl ag23.h (ar.nd 2 rfl id) Te)<|Jb (l:=[_]) rfl rfl sl88.h z22.h rfl rfl rfl rfl rfl rfl rfl hm hh fun m4 w mV hm hh=>cB rfl rfl rfl (C.as (v:=.agg ⟨hV (Pl.bu f)⟩) (Hd _ 1 [⟨r,cr,f⟩] _ (Rd.JL (hm.get (k:=0) rfl)) (by intro s9 eT; rw [Lf.1 eT]; exact hf.Jj hm.to) Tc (by simp only [Lk,LY,Lq]; omega)) (by simp only [Lk,LY,Lq]; rw [gS (Pl.Qz _)])) hm hh fun w hm hh=>Ja rfl rfl (JA (c:=false) (sG rfl rfl fl23 rfl rfl) (by simp [jq,lB,hV]))<|au 9 ?_
 refine cT rfl rfl rfl (ue _) fun v w hR=>?_
 obtain ⟨PT,vr,rfl,dM,ae⟩:=hR
 replace hm:=Mem.XR hm ae
 refine au 6 ?_
 refine Ja rfl rfl (Jm (s:=67) (vs:=aZ oo nn (Pl.hh (Pl.bu f) (Pl.bu (Pl.bQ f (cs.map aa.cm) nn.toNat))) _ cs.length cq) rfl ag26.h (hm.nt 3 rfl) rfl) ?_
 have cM:=DU oo nn (Pl.hh (Pl.bu f) (Pl.bu (Pl.bQ f (cs.map aa.cm) nn.toNat))) q cq cs _ (hq.Jj hm.to) hl (fun c hc=>Q1.mono (aq c hc) hm.to) cO hv
 refine cT rfl rfl rfl cM fun v w hR=>?_
 obtain ⟨zs,ys,aK,dE,aj,aI,aF,ry,rfl,ah,ew,hhs,dS,j0,ae⟩:=hR
 replace hm:=hm.VZ ae
 obtain rfl:=ah.QB Jf Tb
 have wO:zs.Perm (Pl.ids (cs.map aa.cm).length):=by rw [Lj]; exact dS
 have rq:Pl.jC (Pl.Zi (cs.map aa.cm)) zs 0 (cs.map aa.cm).length:=by rw [Lj]; exact j0
 have P2:∀ y∈ys,Pl.single oo nn y.cm=0:=fun y hy=>by
  have h9:y.cm∈ys.map aa.cm:=Ln.2 ⟨y,hy,rfl⟩
  rw [ew] at h9
  obtain ⟨c,hc,e⟩:=Ln.1 h9
  rw [← e]; exact fF c (ru hc)
 have cI:(((ys).map aa.cm).flatMap (Pl.dt f))=(Pl.bQ f (cs.map aa.cm) nn.toNat):=by
  rw [ew,yw,Pl.tP hv ho wO rq]
 have fz:ys.length≤100:=by
  have h9:=LM List.length ew
  rw [Lj,Lj] at h9
  have h8:=wP (cs:=cs) (zs:=zs)
  have h7:=dS.length_eq
  rw [Pl.Qj] at h7
  omega
 have N7:(Pl.bQ f (cs.map aa.cm) nn.toNat).length≤1000000:=by unfold Pl.bQ; rw [Lj,List.length_range]; omega
 have mZ:∀ k,(((ys.take k).map aa.cm).flatMap (Pl.dt f)).length≤1000000:=fun k=>by
  have h9:(((ys).map aa.cm).flatMap (Pl.dt f)).length=(((ys.take k).map aa.cm).flatMap (Pl.dt f)).length+(((ys.drop k).map aa.cm).flatMap (Pl.dt f)).length:=by
   conv=>lhs; rw [← Ke k ys]
   rw [Lx,Lh,Lc]
  rw [cI] at h9
  omega
 refine Ja rfl rfl (QF rfl fv26_4 rfl)<|au 5 ?_
 refine Jg (ι:=Nat×List (Nat×ag)) rfl (ks:=[0,3,4,6,35,36]) Tn (fun x=>[(37,.int .i64 (x.1:Int))]) (fun x w=>Mem w0 w No ((aI,aF)::(m3,.row 46 [.int .i64 0,.int .i64 0])::(m2,.row 46 [.int .i64 0,.int .i64 0])::(m1,.row 26 (aZ oo nn (Pl.hh (Pl.bu f) (Pl.bu (Pl.bQ f (cs.map aa.cm) nn.toNat))) q cs.length cq))::(x.2++ry))∧VN 126 5 (((ys.take x.1).map aa.cm).flatMap (Pl.dt f)) PT x.2∧x.1≤ys.length) (fun x=>ys.length-x.1) (0,vr) (⟨(hm.Jp [0,2,3,4] 5 rfl),dM,LL _⟩) Tm (fun x w hM=>?_)
 obtain ⟨k,vr⟩:=x
 obtain ⟨hm,dM,hk⟩:=hM
 simp only at hm dM hk
 refine au 6 ?_
 refine cd (fun bg=>?_) fun bg=>?_
 ·
  simp only [dT] at bg
  obtain ⟨y,hi⟩:∃ y_,ys[k]?=some y_:=⟨_,La Ta⟩
  have Dy:=Ld hi
  have Fv:=Pl.Jw (P2 y Dy)
  have pM:=hhs y Dy
  obtain ⟨U1,qo,rfl⟩:=(ah.rd hm 0 rfl).bS Jf Tb hi
  have HB:=mZ k
  have nO:=mZ (k+1)
  rw [np hi,Lc] at nO
  refine au 7 ?_
  refine Ja rfl rfl (JU rfl ag60.h (ah.rd hm 0 rfl).nt Jf hi)<|aT hm fun m5 w hm=>?_
  refine st hm 0 fun w hm=>?_
  refine au 6 ?_
  refine cA rfl rfl rfl (Au r cr f y.cm y.d.p y.d.cap _ Fv.1 (fun h9=>by have:=Fv.2.1 h9; omega) (hf.Jj hm.to) bY.1 eD (pM.rd hm (by intro e he; exact .tail _ (.tail _ (.tail _ (.tail _ (.tail _ (Ly _ he))))))) pM.le pM.spot) hm fun w hm=>Jb (l:=[_]) rfl rfl sl88.h z22.h rfl rfl rfl rfl rfl rfl rfl hm trivial fun m6 w Kv hm hh=>cT rfl rfl rfl (kr _ 1 [⟨(Kw r cr y.d.p y.cm),(bqC cr y.d.cap y.cm),(Pl.dt f y.cm)⟩] 126 PT (((ys.take k).map aa.cm).flatMap (Pl.dt f)) vr _ (Jr.bX (A:=[_,_,_,_,_,_]) hm.Jz) dM Ta (Rd.JL (hm.get (k:=0) rfl)) (by simp only [Lf]; rintro _ rfl; exact (US (hf.Jj hm.to) bY.1 (pM.rd hm (by intro e he; exact .tail _ (.tail _ (.tail _ (.tail _ (.tail _ (.tail _ (Ly _ he)))))))))) (hm.Sp (A:=[_,_,_,_,_,_]) 0 rfl) (by simp only [Lf]; rintro _ rfl; exact (UT ((Mem.right (L:=[_,_,_,_,_,_]) hm).left.mF hf (fun _ _ _ h=>h)) (fun bO=>pP (A:=[_,_,_,_,_,_]) hm pM bO))) Tc (by first | (simp only [Lk,LY,Lq]; omega) | (simp <;> omega))) fun v w hR=>?_
  obtain ⟨rfl,vr,dM,ae⟩:=hR
  replace hm:=Mem.mq (A:=[_,_,_,_,_,_]) hm ae
  simp only [Lk,LY,Lq] at dM
  refine au 7 ?_
  refine next (k+1,vr) Td ⟨(hm.Jp [2,3,4,5] 6 rfl),by simp only; rw [np hi]; exact dM,Td⟩ ⟨nx k,Tm⟩
 ·
  simp only [dF] at bg
  have b8:k=ys.length:=by omega
  rw [b8,Lv,cI] at dM
  refine au 7 ?_
  refine dw [0,6,9,4,12] hm fun w hw ar hh hm=>?_
  refine au 2 ?_
  refine Ja rfl rfl (Jm (s:=32) (vs:=hV (Pl.bu (Pl.bQ f (cs.map aa.cm) nn.toNat))) rfl ag23.h (ar.nd 3 rfl id) Te)<|cB rfl rfl rfl (C.as (v:=.agg ⟨hV (Pl.bu (Pl.bQ f (cs.map aa.cm) nn.toNat))⟩) (uf 126 PT (Pl.bQ f (cs.map aa.cm) nn.toNat) vr _ (Jr.bX (A:=[_,_,_,_]) hm.Jz) dM Ta) (by rw [gS (Pl.Qz _)])) hm hh fun w hm hh=>Ja rfl rfl (JA (c:=false) (sG rfl rfl fl23 rfl rfl) (by simp [jq,lB,hV]))<|au 8 ?_
  refine st hm 2 fun w hm=>?_
  refine au 4 ?_
  exact ⟨rfl,hm.to⟩
theorem DW(a b c e:Int)(m:Nat)(w0:World)(hb:w0.heap[m]?=some (ag.row 32 [.int .i64 a,.int .i64 b]).Jd)(h1:0≤a∧0≤b∧a+b≤9223372036854775807)(h2:0≤c∧0≤e∧c+e≤9223372036854775807):C Tryz.prog 252 [.agg ⟨[.int .i64 c,.int .i64 e]⟩,.pointer (some ⟨m,0,none⟩)] w0 fun v w'=>v=.bool (Pl.aL a b c e).isSome∧Ext No w0 w':=by
 refine aH Tryz.func252 fun κ _ Je Jc hm=>?_
 refine au 2 ?_
 refine bT hm fun m1 w hm=>?_
 refine au 5 ?_
 refine Ja rfl rfl (Jm (s:=2) (vs:=[_,_]) rfl ag32.h (Qo ((hm.to.same _ (Lb.1 hb).1 id).trans hb)) rfl)<|au 1 ?_
 refine cA rfl rfl rfl (Q7 a b c e _ h1 h2) hm fun w hm=>au 3 ?_
 refine aT hm fun m2 w hm=>?_
 refine st hm 0 fun w hm=>?_
 refine au 11 ?_
 exact ⟨rfl,hm.to⟩
theorem HC(c:Pl.Cm)(p:Tg)(cap:Nat)(q:Tg)(cq:Nat)(es:Tl)(w0:World)(hc:Pl.av c=0)(hq:Rd w0 q (es.flatMap Q9))(hl:es.length≤1000000)(aq:∀ e∈es,0≤e.1∧0≤e.2∧e.1+e.2≤9223372036854775807):C Tryz.prog 213 [.agg ⟨fV c p c.bs.length cap⟩,.slice q es.length cq] w0 fun v w'=>v=.bool (decide (c.k=1)&&es.any fun e=>(Pl.aL (Pl.br c).1 (Pl.br c).2 e.1 e.2).isSome)∧Ext No w0 w':=by
 have b6:=Pl.Jl hc
 have ef:0≤(Pl.br c).1∧0≤(Pl.br c).2∧(Pl.br c).1+(Pl.br c).2≤9223372036854775807:=by
  unfold Pl.br
  split <;> simp only <;> omega
 refine aH Tryz.func213 fun κ _ Je Jc hm=>?_
 refine au 2 ?_
 refine bT hm fun m1 w hm=>?_
 refine au 6 ?_
 refine cA rfl rfl rfl (VI _ _ _ _) hm fun w hm=>au 3 ?_
 refine aT hm fun m2 w hm=>?_
 refine st hm 0 fun w hm=>?_
 refine au 8 ?_
 refine JK rfl rfl rfl (fun hc=>(BE rfl rfl))<|J1 rfl rfl rfl (fun hc=>(J8 (gx hc rfl) (J8 (gx hc rfl) QL))) go251 (fun hc=>(tR q cq es _ _ (fun e=>(Pl.aL (Pl.br c).1 (Pl.br c).2 e.1 e.2).isSome) _ (hq.Jj hm.to) Ta go252 fun e w1 rY nL=>DW (Pl.br c).1 (Pl.br c).2 e.1 e.2 m2 w1 ((nL.same _ (Lb.1 (hm.get (k:=0) rfl)).1 id).trans (hm.get (k:=0) rfl)) ef (aq e rY))) trivial fun w hE hh=>?_
 replace hm:=hm.ext hE
 refine au 6 ?_
 exact ⟨rfl,hm.to⟩
end Go.Proofs.YtaehgpeenaomcaaGreat
