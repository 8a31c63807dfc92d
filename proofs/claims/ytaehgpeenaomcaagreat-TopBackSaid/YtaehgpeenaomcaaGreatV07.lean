/- Part 8 of the proof of TopBack: Rec Nw Jn JnC JnD JnE Prp Dl DlB DlC. Conditions: the hypotheses of each theorem. -/
import Derived.Test.YtaehgpeenaomcaaGreatV06
import Derived.Test.YtaehgpeenaomcaaGreatChecked
set_option maxRecDepth 10000
set_option maxHeartbeats 4000000
set_option linter.unusedVariables false
set_option linter.unusedSimpArgs false
namespace Go.Proofs.YtaehgpeenaomcaaGreat
open Go Go.Cx
theorem Hl(p:Tg)(cap:Nat)(bs:Th)(w0:World)(hx:Rd w0 p (bs.flatMap Jk))(hle:bs.length≤cap)(cU:cap≠0→∀ ad,p=some ad→ad.spot=none)(hl:bs.length≤70368744177664)(h:Pl.jy bs=true):C Tryz.prog 223 [.slice p bs.length cap] w0 fun v w'=>∃ q c g b,v=.tuple ⟨[.slice q (bs.take (bs.length-4)).length c,.bool true]⟩∧Acc 5 1 q (bs.take (bs.length-4)).length c ((bs.take (bs.length-4)).flatMap Jk) g b∧Mem w0 w' No [(g,b)]:=
 (Dp p cap bs w0 hx hle cU hl).mono fun v w' hh=>by
  have h':(decide (4≤bs.length)&&decide ((bs.drop (bs.length-4))=Pl.tf (Pl.qI (bs.take (bs.length-4)))))=true:=h
  obtain ⟨q,c,g,b,h1,h2,h3⟩:=hh
  rw [LI h',h'] at h1
  rw [LI h'] at h2
  exact ⟨q,c,g,b,h1,h2,h3⟩
theorem Hm(p:Tg)(cap:Nat)(bs:Th)(w0:World)(hx:Rd w0 p (bs.flatMap Jk))(hle:bs.length≤cap)(cU:cap≠0→∀ ad,p=some ad→ad.spot=none)(hl:bs.length≤70368744177664)(h:Pl.jy bs=false):C Tryz.prog 223 [.slice p bs.length cap] w0 fun v w'=>(∃ q c,v=.tuple ⟨[.slice q 0 c,.bool false]⟩)∧Ext No w0 w':=
 (Dp p cap bs w0 hx hle cU hl).mono fun v w' hh=>by
  have h':(decide (4≤bs.length)&&decide ((bs.drop (bs.length-4))=Pl.tf (Pl.qI (bs.take (bs.length-4)))))=false:=h
  obtain ⟨q,c,g,b,h1,h2,h3⟩:=hh
  rw [LH (by rw [h']; simp),h'] at h1
  exact ⟨⟨q,c,h1⟩,h3.to⟩
theorem ng(r:Pl.Rc)(p:Tg)(cap:Nat)(w0:World)(hx:Rd w0 p (r.bs.flatMap Jk))(hk:Pl.ob r)(hl:r.bs.length≤70368744177600):C Tryz.prog 263 [.agg ⟨Bk r p r.bs.length cap⟩] w0 fun v w'=>∃ q c g b,v=.tuple ⟨[.slice q (if Pl.bt r=true then Pl.aC r else []).length c,.int .i64 (if Pl.bt r=true then 0 else 2)]⟩∧Acc 5 1 q (if Pl.bt r=true then Pl.aC r else []).length c ((if Pl.bt r=true then Pl.aC r else []).flatMap Jk) g b∧Mem w0 w' No [(g,b)]:=by
 have hv:∀ o,Pl.valid o 0=true↔0≤o∧o≤4611686018427387903:=fun o=>by rw [Pl.Xk]; omega
 obtain ⟨k1,k2,k3,k4⟩:=id hk
 simp only [Pl.aA] at k3 k4
 refine aH Tryz.func263 fun κ _ Je Jc hm=>?_
 refine au 2 ?_
 refine bT hm fun m1 w hm=>?_
 refine au 10 ?_
 refine cA rfl rfl rfl (Qw _ _ _ Ta Ta) hm fun w hm=>au 4 ?_
 refine JK rfl rfl rfl (fun hc=>(Qe (cs:=[_,_]) z32.h ft32.h rfl rfl (J8 (gx hc rfl) QL) rfl rfl))<|J1 rfl rfl rfl (fun hc=>(J8 (gx hc rfl) QL)) go34 (fun hc=>(Qw _ _ _ Ta Ta)) trivial fun w hE hh=>?_
 replace hm:=hm.ext hE
 refine au 5 ?_
 refine JK rfl rfl rfl (fun hc=>(gq (gx hc rfl) rfl sl22.h))<|au 4 ?_
 refine cd (fun ai=>?_) fun ai=>?_
 ·
  simp only [bB,bE,dT] at ai
  have hr:Pl.bt r=false:=by
   rw [Bool.eq_false_iff]; intro h9; rw [Pl.Q5] at h9
   rcases ai with (h8 | h8) | h8
   · rw [(hv r.cu).2 Ta] at h8; cases h8
   · rw [(hv r.of).2 Ta] at h8; cases h8
   · omega
  refine au 9 ?_
  exact ⟨none,0,0,.gap,by rw [hr]; rfl,by rw [hr]; exact .nil _ _ _ _,(hm.drop (List.nil_sublist _)).JP⟩
 ·
  simp only [bD,bF,dF] at ai
  have v1:=(hv r.cu).1 ai.1.1
  have v2:=(hv r.of).1 ai.1.2
  have hr:Pl.bt r=true:=by rw [Pl.Q5]; omega
  have b7:=Pl.tq hk hr
  have hhl:=Pl.YO r
  have cO:=Pl.iW r
  refine j8 rfl<|QV<|Qb rfl<|JT (.act 0 (.act 1 (.pure 2 (.pure 3 (.pure 4 (.pure 5 (.pure 6 (.pure 7 (.pure 8 (.pure 9 (.pure 10 (.pure 11 (.pure 12 (.pure 13 (.pure 14 (.pure 15 (.pure 16 (.pure 17 (.pure 18 (.pure 19 (.pure 20 (.act 21 (.act 22 (.pure 23 (.pure 24 (.pure 25 (.pure 26 (.pure 27 .done)))))))))))))))))))))))))))) Te<|Jb (l:=[_,_,_,_]) rfl rfl sl22.h z5.h rfl rfl rfl rfl rfl rfl rfl hm trivial fun m2 w bo hm hh=>xE rfl rfl rfl cb22 hm 0 rfl fun w hm=>au 8 ?_
  refine Ja rfl rfl (JX rfl is3 it55 (iJ Ta Ta))<|au 3 ?_
  refine Ja rfl rfl (JX rfl is3 it55 (iJ Ta Ta))<|au 4 ?_
  refine Ja rfl rfl (JX rfl is3 it55 (iJ Ta Ta))<|au 1 ?_
  refine Jb (l:=[_,_,_,_,_,_,_,_,_,_]) rfl rfl sl267.h z265.h rfl rfl rfl rfl rfl rfl rfl hm trivial fun m3 w dX hm hh=>cT rfl rfl rfl (tZ _ _ Pl.bJ _ _ (Pl.eR r) _ (Rd.o9 (hm.get (k:=1) rfl)) (Rd.JL (hm.get (k:=0) rfl)) Tb (by simp [Pl.eR]) b7.2) fun v w hR=>?_
  obtain ⟨aK,dE,aj,aI,aF,rfl,ah,ae⟩:=hR
  replace hm:=hm.Jt ae
  obtain rfl:=ah.J0
  have hwo:Pl.vP Pl.bJ (Pl.eR r)=Pl.bJ++Pl.Vl (Pl.eR r):=by unfold Pl.vP; rw [b7.1]; rfl
  have vM:(Pl.vP Pl.bJ (Pl.eR r)).length=40:=by rw [hwo]; exact hhl
  refine au 12 ?_
  refine Jy rfl rfl rfl rfl rfl rfl sl22.h sl22.h z5.h rfl (Zl r.bs) (hx.Jj hm.to) (J0 r.bs) ah hm 0 rfl (by rw [vM]; omega) (by rw [vM]; omega) fun aK aj aI aF w ah hm=>?_
  replace ah:=ah.to (show _=(Pl.gJ r).flatMap Jk by simp only [hwo,Pl.gJ,Lh])
  have Bt:=ah.J0
  refine cT rfl rfl rfl (C.eqv (Nw aK aj (Pl.gJ r) _ (ah.rd hm 0 rfl) (by rw [← Bt]; exact ah.le) ah.spot Ta) (by rw [← Bt])) fun v w hR=>?_
  obtain ⟨om,cC,r6,jT,rfl,df,ae⟩:=hR
  have Ai:jT.real=true→_:=fun hr=>(ae.fresh _ Lo hr).resolve_left id
  replace hm:=hm.Jt ae
  refine au 6 ?_
  exact ⟨om,cC,r6,jT,by rw [hr]; rfl,by rw [hr]; exact df,(hm.pick [0] rfl)⟩
theorem nh(p:Tg)(cap:Nat)(bs:Th)(w0:World)(hx:Rd w0 p (bs.flatMap Jk))(hle:bs.length≤cap)(cU:cap≠0→∀ ad,p=some ad→ad.spot=none)(hl:bs.length≤70368744177664):C Tryz.prog 179 [.slice p bs.length cap] w0 fun v w'=>∃ (pa:Tg) (ca g:Nat) (b:ag) (al:Th),v=.tuple ⟨[.agg ⟨Bk ((Pl.eE bs).getD Pl.Fz) (bP pa ca 40 1) ((Pl.eE bs).getD Pl.Fz).bs.length (ca-40)⟩,.int .i64 (if (Pl.eE bs).isSome=true then 0 else 19)]⟩∧Acc 5 1 pa al.length ca (al.flatMap Jk) g b∧al.drop 40=((Pl.eE bs).getD Pl.Fz).bs∧Mem w0 w' No [(g,b)]:=by
 have hhl:(bs.take 40).length≤bs.length∧(bs.take 40).length≤40:=by rw [Lg]; omega
 refine aH Tryz.func179 fun κ _ Je Jc hm=>?_
 refine au 2 ?_
 refine aT hm fun m1 w hm=>?_
 refine au 9 ?_
 refine Ja rfl rfl (cy (JE (ln:=0) (hn:=(min bs.length 40)) rfl sl22.h rfl ⟨_,LM (fun x=>some (Value.int .i64 x)) Ta⟩ Ta Ta (fun h=>cU Ta)) (show _=Value.slice (bP p cap 0 1) (bs.take 40).length cap by rw [Lg,Nat.sub_zero,Nat.sub_zero,Nat.min_comm]))<|cT rfl rfl rfl (Kr (bP p cap 0 1) cap (bs.take 40) _ ((hx.Jj hm.to).tn hle) Ta) fun v w hR=>?_
 obtain ⟨r,rh,eG,jbb,jbc,rfl,bp,ae⟩:=hR
 replace hm:=hm.Jt ae
 refine Ja rfl rfl (J4 rfl)<|Qc<|QV<|Qb rfl<|Qb rfl<|JT (.pure 0 (.act 1 (.act 2 (.act 3 (.pure 4 .done))))) Te<|Ja rfl rfl (Jx rfl)<|Jb (l:=[_,_,_,_]) rfl rfl sl22.h z5.h rfl rfl rfl rfl rfl rfl rfl hm trivial fun m2 w bo hm hh=>xE rfl rfl rfl cb22 hm 0 rfl fun w hm=>cT rfl rfl rfl (Dm r _ rh eG (bs.take 40) ⟨0,0,0⟩ _ 4 Pl.bJ 19 _ (hm.get (k:=1) rfl) (bp.rd hm 2 rfl) (bp.apart hm 2 1 rfl rfl rfl) bp.le bp.spot (LL _) Ta (Rd.o9 (hm.get (k:=0) rfl)) (fun _ ad e=>by cases e; exact hm.ne 0 1 rfl rfl rfl) Tb Tb (fun _ ad e=>by cases e; rfl)) fun v w hR=>?_
 obtain ⟨rfl,ae⟩:=hR
 replace hm:=hm.Qv 1 rfl ae
 obtain ⟨s1,e1⟩:∃ s_,(Pl.bk (bs.take 40) ⟨0,0,0⟩ Pl.bJ 19).1=s_:=⟨_,rfl⟩
 rw [e1] at hm
 have a1:s1.at_≤(bs.take 40).length:=by rw [← e1]; exact Pl.wh (LL _)
 refine au 3 ?_
 refine cd (fun ai=>?_) fun ai=>?_
 ·
  simp only [bE] at ai
  have hD:Pl.eE bs=none:=by unfold Pl.eE Pl.PJ; simp only; rw [LI (.inl ai)]
  refine au 3 ?_
  refine st hm 3 fun w hm=>?_
  refine au 6 ?_
  exact ⟨none,0,0,.gap,[],by rw [hD]; rfl,.nil _ _ _ _,by rw [hD]; rfl,(hm.drop (List.nil_sublist _)).JP⟩
 ·
  simp only [bF] at ai
  refine au 5 ?_
  refine cT rfl rfl rfl (mY r _ rh eG (bs.take 40) s1 8 _ (hm.get (k:=1) rfl) (bp.rd hm 2 rfl) (bp.apart hm 2 1 rfl rfl rfl) bp.le bp.spot a1 Ta Ta) fun v w hR=>?_
  obtain ⟨rfl,ae⟩:=hR
  replace hm:=hm.Qv 1 rfl ae
  obtain ⟨s2,e2⟩:∃ s_,(Pl.aJ (bs.take 40) s1 8).1=s_:=⟨_,rfl⟩
  rw [e2] at hm
  have a2:s2.at_≤(bs.take 40).length:=by rw [← e2]; exact Pl.YF a1
  refine au 1 ?_
  refine cT rfl rfl rfl (mY r _ rh eG (bs.take 40) s2 8 _ (hm.get (k:=1) rfl) (bp.rd hm 2 rfl) (bp.apart hm 2 1 rfl rfl rfl) bp.le bp.spot a2 Ta Ta) fun v w hR=>?_
  obtain ⟨rfl,ae⟩:=hR
  replace hm:=hm.Qv 1 rfl ae
  obtain ⟨s3,e3⟩:∃ s_,(Pl.aJ (bs.take 40) s2 8).1=s_:=⟨_,rfl⟩
  rw [e3] at hm
  have a3:s3.at_≤(bs.take 40).length:=by rw [← e3]; exact Pl.YF a2
  refine au 1 ?_
  refine cT rfl rfl rfl (ua r _ rh eG (bs.take 40) s3  _ (hm.get (k:=1) rfl) (bp.rd hm 2 rfl) (bp.apart hm 2 1 rfl rfl rfl) bp.le bp.spot a3 Ta) fun v w hR=>?_
  obtain ⟨rfl,ae⟩:=hR
  replace hm:=hm.Qv 1 rfl ae
  obtain ⟨s4,e4⟩:∃ s_,(Pl.bH (bs.take 40) s3).1=s_:=⟨_,rfl⟩
  rw [e4] at hm
  have a4:s4.at_≤(bs.take 40).length:=by rw [← e4]; exact Pl.mB a3
  refine au 1 ?_
  refine cT rfl rfl rfl (ua r _ rh eG (bs.take 40) s4  _ (hm.get (k:=1) rfl) (bp.rd hm 2 rfl) (bp.apart hm 2 1 rfl rfl rfl) bp.le bp.spot a4 Ta) fun v w hR=>?_
  obtain ⟨rfl,ae⟩:=hR
  replace hm:=hm.Qv 1 rfl ae
  obtain ⟨s5,e5⟩:∃ s_,(Pl.bH (bs.take 40) s4).1=s_:=⟨_,rfl⟩
  rw [e5] at hm
  have a5:s5.at_≤(bs.take 40).length:=by rw [← e5]; exact Pl.mB a4
  refine au 1 ?_
  refine aT hm fun m3 w hm=>?_
  refine st hm 0 fun w hm=>?_
  refine au 5 ?_
  refine cT rfl rfl rfl (mY r _ rh eG (bs.take 40) s5 4 _ (hm.get (k:=2) rfl) (bp.rd hm 3 rfl) (bp.apart hm 3 2 rfl rfl rfl) bp.le bp.spot a5 Ta Ta) fun v w hR=>?_
  obtain ⟨rfl,ae⟩:=hR
  replace hm:=hm.Qv 2 rfl ae
  obtain ⟨s6,e6⟩:∃ s_,(Pl.aJ (bs.take 40) s5 4).1=s_:=⟨_,rfl⟩
  rw [e6] at hm
  have a6:s6.at_≤(bs.take 40).length:=by rw [← e6]; exact Pl.YF a5
  have hn4:=Pl.MR (bs.take 40) s5
  have PX:Pl.eE bs=if (Pl.bk (bs.take 40) ⟨0,0,0⟩ Pl.bJ 19).2=false∨¬ (s6.code=0∧s6.fat=0)∨(Pl.ba (Pl.aJ (bs.take 40) s5 4).2)=0∨(bs.length:Int)<(Pl.ba (Pl.aJ (bs.take 40) s5 4).2) then none else if Pl.jy (bs.take (Pl.ba (Pl.aJ (bs.take 40) s5 4).2).toNat)=true then some ⟨(Pl.aJ (bs.take 40) s1 8).2,(Pl.aJ (bs.take 40) s2 8).2,(Pl.bH (bs.take 40) s3).2,(Pl.bH (bs.take 40) s4).2,((bs.take (Pl.ba (Pl.aJ (bs.take 40) s5 4).2).toNat).take ((bs.take (Pl.ba (Pl.aJ (bs.take 40) s5 4).2).toNat).length-4)).drop 40⟩ else none:=by unfold Pl.eE Pl.PJ; simp only [e1,e2,e3,e4,e5,e6]
  refine Ja rfl rfl (JX rfl is55 it3 (Ql Ta Ta))<|cA rfl rfl rfl (tV (Pl.aJ (bs.take 40) s5 4).2 _ (by simp only [Pl.aA]; omega)) hm fun w hm=>au 7 ?_
  refine cA rfl rfl rfl (Ha r _ rh (bs.take 40).length eG s6 _ (hm.get (k:=2) rfl)) hm fun w hm=>au 1 ?_
  refine Ja rfl rfl (jo rfl rfl iii46)<|au 7 ?_
  refine JK rfl rfl rfl (fun hc=>(gq (gx hc rfl) rfl sl22.h))<|au 4 ?_
  refine cd (fun ao=>?_) fun ao=>?_
  ·
   simp only [bB,dT] at ao
   have hD:Pl.eE bs=none:=by rw [PX,LI (ao.elim (fun h=>h.elim (fun h9=>.inr (.inl h9)) (fun h9=>.inr (.inr (.inl h9)))) (fun h9=>.inr (.inr (.inr h9))))]
   refine au 3 ?_
   refine st hm 4 fun w hm=>?_
   refine au 6 ?_
   exact ⟨none,0,0,.gap,[],by rw [hD]; rfl,.nil _ _ _ _,by rw [hD]; rfl,(hm.drop (List.nil_sublist _)).JP⟩
  ·
   simp only [bD,dF,Decidable.not_not] at ao
   obtain ⟨⟨g1,g2⟩,g3⟩:=ao
   rw [LH (by rw [ai]; simp [g1,g2]; omega)] at PX
   have hrz:(Pl.ba (Pl.aJ (bs.take 40) s5 4).2)=0∨44≤(Pl.ba (Pl.aJ (bs.take 40) s5 4).2):=by unfold Pl.ba; split <;> omega
   have hNl:(bs.take (Pl.ba (Pl.aJ (bs.take 40) s5 4).2).toNat).length=(Pl.ba (Pl.aJ (bs.take 40) s5 4).2).toNat:=by rw [Lg]; omega
   refine au 3 ?_
   cases NI:Pl.jy (bs.take (Pl.ba (Pl.aJ (bs.take 40) s5 4).2).toNat)
   ·
    have hD:Pl.eE bs=none:=by rw [PX,NI]; rfl
    refine au 3 ?_
    refine Ja rfl rfl (cy (JE (ln:=0) (hn:=(Pl.ba (Pl.aJ (bs.take 40) s5 4).2).toNat) rfl sl22.h rfl ⟨_,LM (fun x=>some (Value.int .i64 x)) Ta⟩ Ta Ta (fun h=>cU Ta)) (show _=Value.slice (bP p cap 0 1) (bs.take (Pl.ba (Pl.aJ (bs.take 40) s5 4).2).toNat).length cap by rw [hNl,Nat.sub_zero,Nat.sub_zero]))<|cT rfl rfl rfl (Hm (bP p cap 0 1) cap (bs.take (Pl.ba (Pl.aJ (bs.take 40) s5 4).2).toNat) _ ((hx.Jj hm.to).tn hle) Ta (fun h ad e=>pq cU h e) Ta NI) fun v w hR=>?_
    obtain ⟨⟨q_,c_,rfl⟩,hE⟩:=hR
    replace hm:=hm.ext hE
    refine au 18 ?_
    refine st hm 4 fun w hm=>?_
    refine au 6 ?_
    exact ⟨none,0,0,.gap,[],by rw [hD]; rfl,.nil _ _ _ _,by rw [hD]; rfl,(hm.drop (List.nil_sublist _)).JP⟩
   ·
    rw [LI NI] at PX
    have hsz:=NI
    unfold Pl.jy at hsz
    simp only [bA,dT] at hsz
    have hTl:((bs.take (Pl.ba (Pl.aJ (bs.take 40) s5 4).2).toNat).take ((bs.take (Pl.ba (Pl.aJ (bs.take 40) s5 4).2).toNat).length-4)).length=(Pl.ba (Pl.aJ (bs.take 40) s5 4).2).toNat-4:=by rw [Lg]; omega
    refine au 3 ?_
    refine Ja rfl rfl (cy (JE (ln:=0) (hn:=(Pl.ba (Pl.aJ (bs.take 40) s5 4).2).toNat) rfl sl22.h rfl ⟨_,LM (fun x=>some (Value.int .i64 x)) Ta⟩ Ta Ta (fun h=>cU Ta)) (show _=Value.slice (bP p cap 0 1) (bs.take (Pl.ba (Pl.aJ (bs.take 40) s5 4).2).toNat).length cap by rw [hNl,Nat.sub_zero,Nat.sub_zero]))<|cT rfl rfl rfl (Hl (bP p cap 0 1) cap (bs.take (Pl.ba (Pl.aJ (bs.take 40) s5 4).2).toNat) _ ((hx.Jj hm.to).tn hle) Ta (fun h ad e=>pq cU h e) Ta NI) fun v w hR=>?_
    obtain ⟨om,cC,r6,jT,rfl,df,ae⟩:=hR
    replace hm:=hm.Jt ae
    have hzle:=df.le
    refine au 20 ?_
    refine Ja rfl rfl (JE (ln:=40) (hn:=_) rfl sl22.h ⟨_,LM (fun x=>some (Value.int .i64 x)) Ta⟩ rfl Ta Ta (fun h=>df.spot Ta))<|au 1 ?_
    refine st hm 1 fun w hm=>?_
    refine au 5 ?_
    refine st hm 5 fun w hm=>?_
    refine Ja rfl rfl (J4 rfl)<|Qc<|QV<|iI rfl<|dD (fin Je rfl (.cell rfl (Ju (vs:=[_,_,_,_,_]) ag225.h (hm.get (k:=5) rfl) rfl) (.tmp rfl .nil)) .more ?_)
    exact ⟨om,cC,r6,jT,(bs.take (Pl.ba (Pl.aJ (bs.take 40) s5 4).2).toNat).take ((bs.take (Pl.ba (Pl.aJ (bs.take 40) s5 4).2).toNat).length-4),by rw [PX]; simp only [Option.getD_some,Option.isSome_some,if_true,Bk,Lm],df,by rw [PX]; rfl,(hm.pick [0] rfl)⟩
def UD:dR:=⟨0,0,0,0,⟨none,0,[]⟩⟩
def QZ:List dR→dR
 | []=>UD
 | x::r=>r.foldl (fun b y=>if b.sq<y.sq then y else b) x
theorem Aj{xs:List dR}{e:dR}(h:xs[0]?=some e):QZ (xs.take 1)=e:=by
 cases xs with
 | nil=>simp at h
 | cons x r=>simp at h; subst h; rfl
theorem ni{xs:List dR}{i:Nat}{e:dR}(h0:i≠0)(h:xs[i]?=some e):QZ (xs.take (i+1))=if (QZ (xs.take i)).sq<e.sq then e else QZ (xs.take i):=by
 cases xs with
 | nil=>simp at h
 | cons x r=>
  obtain ⟨k,rfl⟩:∃ k,i=k+1:=⟨i-1,Ta⟩
  rw [LW] at h
  rw [List.take_succ_cons,List.take_succ_cons,LC,h]
  simp only [QZ,Option.toList,List.foldl_append,List.foldl_cons,List.foldl_nil]
  rfl
theorem nj(x:dR)(w0:World):C Tryz.prog 332 [.agg ⟨Xz x⟩] w0 fun v w'=>v=.int .u64 x.sq∧Ext No w0 w':=by
 refine aH Tryz.func332 fun κ _ Je Jc hm=>?_
 refine au 2 ?_
 refine bT hm fun m1 w hm=>?_
 refine au 12 ?_
 exact ⟨rfl,hm.to⟩
theorem ri(p:Tg)(cap:Nat)(xs:List dR)(w0:World)(hx:Rd w0 p (xs.flatMap Xz))(hl:xs.length≤9223372036854775807):C Tryz.prog 224 [.slice p xs.length cap] w0 fun v w'=>v=.tuple ⟨[.agg ⟨Xz (QZ xs)⟩,.bool (decide (0<xs.length))]⟩∧Ext No w0 w':=by
 refine aH Tryz.func224 fun κ _ Je Jc hm=>?_
 refine au 2 ?_
 refine aT hm fun m1 w hm=>?_
 refine au 5 ?_
 refine aT hm fun m2 w hm=>?_
 refine au 11 ?_
 refine Jg (ι:=Nat) rfl (ks:=[0,2,3,4,7,8]) Tn (fun x=>[(9,.int .i64 x)]) (fun x w=>Mem w0 w No [(m2,.row 225 (Xz (QZ (xs.take x)))),(m1,.row 225 [.int .u64 0,.int .u64 0,.int .i64 0,.int .i64 0,.slice none 0 0])]∧x≤xs.length) (fun x=>xs.length-x) 0 (⟨(hm.pick [0,1] rfl),LL _⟩) Tm (fun x w hM=>?_)
 obtain ⟨hm,hk⟩:=hM
 refine au 6 ?_
 refine cd (fun ai=>?_) fun ai=>?_
 ·
  simp only [dT] at ai
  obtain ⟨e,hi⟩:∃ y_,xs[x]?=some y_:=⟨_,La Ta⟩
  obtain ⟨qb,qo,rfl⟩:=hx.bS Vn Tb hi
  refine au 8 ?_
  refine Ja rfl rfl (JU rfl ag225.h (hx.Jj hm.to).nt Vn hi)<|aT hm fun m3 w hm=>?_
  refine au 1 ?_
  refine st hm 0 fun w hm=>?_
  refine au 3 ?_
  by_cases fN:x=0
  ·
   have re:(QZ (xs.take (x+1)))=e:=by subst fN; exact Aj hi
   refine dw [0,3,6,9,12,18,21,16,2,25,27,30] hm fun w hw ar hh hm=>?_
   refine au 1 ?_
   refine Ja rfl rfl (JA (c:=true) (V3 rfl rfl) (LQ Ta))<|au 15 ?_
   refine st hm 1 fun w hm=>?_
   refine au 7 ?_
   refine next (x+1) Ta ⟨?_,Ta⟩ ⟨nx x,Tm⟩
   rw [re]
   exact (hm.pick [1,2] rfl)
  ·
   refine dw [0,3,6,9,12,18,21,16,2,25,27,30] hm fun w hw ar hh hm=>?_
   refine au 1 ?_
   refine Ja rfl rfl (JA (c:=false) (V3 rfl rfl) (LN Ta))<|au 2 ?_
   refine Ja rfl rfl (tu rfl Te)<|au 1 ?_
   refine Ja rfl rfl (tu rfl Te)<|tt rfl rfl rfl rfl Te go332 (nj e _) fun v w hR=>?_
   obtain ⟨rfl,hE⟩:=hR
   refine ⟨hh.ext hE,?_⟩
   replace hm:=hm.ext hE
   replace hh:=hh.ext hE
   refine au 1 ?_
   refine tt rfl rfl rfl rfl Te go332 (nj (QZ (xs.take x)) _) fun v w hR=>?_
   obtain ⟨rfl,hE⟩:=hR
   refine ⟨trivial,?_⟩
   replace hm:=hm.ext hE
   refine au 4 ?_
   refine cd (fun ao=>?_) fun ao=>?_
   ·
    simp only [dT] at ao
    have re:(QZ (xs.take (x+1)))=e:=by rw [ni fN hi,LI ao]
    refine au 2 ?_
    refine st hm 1 fun w hm=>?_
    refine au 7 ?_
    refine next (x+1) Ta ⟨?_,Ta⟩ ⟨nx x,Tm⟩
    rw [re]
    exact (hm.pick [1,2] rfl)
   ·
    simp only [dF] at ao
    have re:(QZ (xs.take (x+1)))=(QZ (xs.take x)):=by rw [ni fN hi,LH ao]
    refine au 7 ?_
    refine next (x+1) Ta ⟨?_,Ta⟩ ⟨nx x,Tm⟩
    rw [re]
    exact (hm.pick [1,2] rfl)
 ·
  simp only [dF] at ai
  have b8:x=xs.length:=by omega
  rw [b8,Lv] at hm
  refine au 11 ?_
  refine st hm 1 fun w hm=>?_
  refine au 5 ?_
  exact ⟨by simp; rfl,hm.to⟩
theorem NJ(p:Tg)(cap:Nat)(xs:List dR)(fi:FuncId)(l2:Ti)(pred:dR→Bool)(w0:World)(hx:Rd w0 p (xs.flatMap Xz))(hlen:xs.length≤9223372036854775807)(hg:JH Tryz.prog fi=true)(hf:∀ x w1,x∈xs→Ext No w0 w1→C Tryz.prog fi (.agg ⟨Xz x⟩::l2) w1 fun v w2=>v=.bool (pred x)∧Ext No w1 w2):C Tryz.prog 258 [.slice p xs.length cap,.func (.func fi) #[] ⟨l2⟩] w0 fun v w'=>v=.int .i64 (Pl.idx pred xs)∧Ext No w0 w':=by
 refine aH Tryz.func258 fun κ _ Je Jc hm=>?_
 refine au 14 ?_
 refine Jg (ι:=Nat) rfl (ks:=[0,1,7]) Tn (fun k=>[(8,.int .i64 k)]) (fun k w=>Mem w0 w No []∧k≤xs.length∧∀ (j:Nat) y,j<k→xs[j]?=some y→pred y=false) (fun k=>xs.length-k) 0 (⟨hm,LL _,fun _ _ h=>absurd h (Nat.not_lt_zero _)⟩) Tm (fun k w hM=>?_)
 obtain ⟨hm,hk,cz⟩:=hM
 refine au 6 ?_
 refine cd (fun ai=>?_) fun ai=>?_
 ·
  simp only [dT] at ai
  obtain ⟨x,hi⟩:∃ y_,xs[k]?=some y_:=⟨_,La Ta⟩
  obtain ⟨qb,qo,rfl⟩:=hx.bS Vn Tb hi
  refine au 16 ?_
  refine Ja rfl rfl (JU rfl ag225.h (hx.Jj hm.to).nt Vn hi)<|Qf rfl rfl rfl rfl hg (hf x _ (Ld hi) hm.to) fun v w hR=>?_
  obtain ⟨rfl,hE⟩:=hR
  refine ⟨trivial,?_⟩
  replace hm:=hm.ext hE
  refine au 2 ?_
  refine cd (fun ao=>?_) fun ao=>?_
  ·
   refine au 13 ?_
   exact ⟨by rw [Pl.X8 hi ao cz],hm.to⟩
  ·
   refine au 7 ?_
   refine next (k+1) Ta ⟨hm,Ta,fun j y hj hy=>?_⟩ ⟨nx k,Tm⟩
   rcases L7 j k with h | h
   · exact cz j y h hy
   · obtain rfl:j=k:=by omega
     rw [hi] at hy; cases hy; exact ao
 ·
  have hk:k=xs.length:=by simp at ai; omega
  subst hk
  refine au 12 ?_
  exact ⟨by rw [Pl.YN cz],hm.to⟩
theorem uj(x:dR)(k:Int)(m:Nat)(w0:World)(hk:w0.heap[m]?=some (ag.row 55 [.int .u64 k]).Jd):C Tryz.prog 227 [.agg ⟨Xz x⟩,.pointer (some ⟨m,0,none⟩)] w0 fun v w'=>v=.bool (decide (x.id≠k))∧Ext No w0 w':=by
 refine aH Tryz.func227 fun κ _ Je Jc hm=>?_
 refine au 2 ?_
 refine bT hm fun m1 w hm=>?_
 refine au 14 ?_
 exact ⟨Tc,hm.to⟩
theorem UE(l:List dR):(l.flatMap Xz).all (·.oneCell')=true:=by
 rw [List.all_flatMap]
 exact List.all_eq_true.2 fun x _=>rfl
theorem UF(l:List dR):(l.flatMap Xz).length=l.length*5:=by
 induction l with
 | nil=>rfl
 | cons x r ih=>rw [Lk,Lc,ih,Li]; show 5+_=_; omega
theorem UG{xs:List dR}(h:xs.flatMap Xz=[]):xs=[]:=by
 cases xs with
 | nil=>rfl
 | cons x r=>simp [Xz] at h
theorem Hn(p:Tg)(cap:Nat)(xs:List dR)(w0:World)(hx:Rd w0 p (xs.flatMap Xz))(hlen:xs.length*56≤140737488355328):C Tryz.prog 226 [.slice p xs.length cap] w0 fun v w'=>∃ q c g b,v=.slice q xs.length c∧Acc 225 5 q xs.length c (xs.flatMap Xz) g b∧Mem w0 w' No [(g,b)]:=by
 refine aH Tryz.func226 fun κ _ Je Jc hm=>?_
 refine au 9 ?_
 refine Ja rfl rfl (vJ rfl rfl sb273)<|au 2 ?_
 refine cd (fun ai=>?_) fun ai=>?_
 ·
  obtain rfl:p=none:=by simpa using ai
  obtain rfl:=UG hx
  refine au 8 ?_
  exact ⟨none,0,0,.gap,rfl,.nil _ _ _ _,hm.JP⟩
 ·
  refine au 4 ?_
  refine Jb (l:=[]) rfl rfl sl273.h z225.h rfl rfl rfl rfl rfl rfl rfl hm trivial fun m1 w c5 hm hh=>au 1 ?_
  refine Jy rfl rfl rfl rfl rfl rfl sl273.h sl273.h z225.h rfl (UE xs) (hx.Jj hm.to) (UF xs) (Acc.row rfl) hm 0 rfl Ta Ta fun C9 mW C' Da w tT hm=>au 5 ?_
  exact ⟨C9,mW,C',Da,by rw [LV],by simpa only [LV,L4] using tT,hm⟩
theorem UH(aK:Tg)(aj:Nat)(xs:List dR)(aI:Nat)(aF:ag)(fi:FuncId)(l2:Ti)(pred:dR→Bool)(w0:World)(ah:Acc 225 5 aK xs.length aj (xs.flatMap Xz) aI aF)(DB:aF.real=true→w0.heap[aI]?=some aF.Jd)(hlen:xs.length≤4611686018427387903)(hg:JH Tryz.prog fi=true)(hf:∀ x w1,Ext (fun k=>k=aI∧aF.real=true) w0 w1→C Tryz.prog fi (.agg ⟨Xz x⟩::l2) w1 fun v w2=>v=.bool (pred x)∧Ext No w1 w2):C Tryz.prog 225 [.slice aK xs.length aj,.func (.func fi) #[] ⟨l2⟩] w0 fun v w'=>∃ b',v=.slice aK (xs.filter fun x=>!pred x).length aj∧Acc 225 5 aK (xs.filter fun x=>!pred x).length aj ((xs.filter fun x=>!pred x).flatMap Xz) aI b'∧Mem w0 w' (fun k=>k=aI∧aF.real=true) [(aI,b')]:=by
 refine Vk Tryz.func225 rfl rfl rfl fun κ _ Je Jc=>?_
 have hm:=Mem.wm DB
 refine au 9 ?_
 refine cA rfl rfl rfl (NJ aK aj xs fi l2 pred _ (ah.rd hm 0 rfl) Ta hg (fun x w1 hx hE=>hf x w1 (hm.to.trans hE.F1))) hm fun w hm=>au 10 ?_
 refine cd (fun ai=>?_) fun ai=>?_
 ·
  simp only [dT] at ai
  have cI:(xs.filter fun x=>!pred x)=xs:=by rcases X9 pred xs with ⟨_,h⟩ | ⟨i,x,h,_⟩; exact h; omega
  refine au 9 ?_
  exact ⟨aF,by rw [cI],by rw [cI]; exact ah,(hm.pick [0] rfl)⟩
 ·
  simp only [dF] at ai
  obtain ⟨i0,x0,nM,fN,jU,NK⟩:=(X9 pred xs).resolve_left (fun h=>ai h.1)
  have MA:=(Le.1 fN).1
  rw [nM]
  obtain rfl:=ah.ptr Ta
  have UI:=DelI.start fN jU NK
  refine au 11 ?_
  refine Jg (ι:=Nat×Nat×ag×List dR) rfl (ks:=[0,1,4]) Tn (fun x=>[(6,.int .i64 x.1),(5,.int .i64 x.2.1)]) (fun x w=>Mem w0 w (fun k=>k=aI∧aF.real=true) [(aI,x.2.2.1)]∧Acc 225 5 (some ⟨aI,0,none⟩) xs.length aj (x.2.2.2.flatMap Xz) aI x.2.2.1∧DelI pred xs x.1 x.2.1 x.2.2.2) (fun x=>xs.length-x.1) (i0+1,i0,aF,xs) (⟨(hm.pick [0] rfl),ah,UI⟩) ⟨nx i0,Tm⟩ (fun x w hM=>?_)
  obtain ⟨hm,ah,hI⟩:=hM
  refine au 9 ?_
  refine cd (fun ao=>?_) fun ao=>?_
  ·
   simp only [dT] at ao
   have cV:=hI.len
   have aX:=hI.lt
   obtain ⟨e,hi⟩:∃ y_,x.2.2.2[x.1]?=some y_:=⟨_,La Ta⟩
   refine au 9 ?_
   refine Ja rfl rfl (JU rfl ag225.h (ah.rd hm 0 rfl).nt Vn hi)<|aT hm fun m1 w hm=>?_
   refine st hm 0 fun w hm=>?_
   refine au 6 ?_
   refine Qf rfl rfl rfl rfl hg (hf e _ hm.to) fun v w hR=>?_
   obtain ⟨rfl,hE⟩:=hR
   refine ⟨trivial,?_⟩
   replace hm:=hm.ext hE
   refine au 3 ?_
   refine cd (fun aD=>?_) fun aD=>?_
   ·
    simp only [bE] at aD
    refine au 6 ?_
    refine gB rfl rfl rfl rfl sz225 rfl rfl ah Ta hm 1 rfl fun aF w ah hm=>?_
    replace ah:=ah.to (kj Vn Ta e)
    refine au 14 ?_
    refine next (x.1+1,x.2.1+1,aF,x.2.2.2.set x.2.1 e) Td ⟨(hm.pick [1] rfl),ah,hI.put hi aD⟩ ⟨nx x.1,nx x.2.1,Tm⟩
   ·
    simp only [bF] at aD
    refine au 8 ?_
    refine next (x.1+1,x.2.1,x.2.2.1,x.2.2.2) Td ⟨(hm.pick [1] rfl),ah,hI.skip hi aD⟩ ⟨nx x.1,Tm⟩
  ·
   simp only [dF] at ao
   obtain ⟨Ho,Ak,PY⟩:=hI.done Ta
   refine au 9 ?_
   refine Ja rfl rfl (JE (ln:=x.2.1) (hn:=xs.length) rfl sl273.h ⟨_,rfl⟩ rfl Ta (by have:=ah.le; omega) (fun _ ad e=>by cases e; rfl))<|mC rfl rfl sl273.h z225.h rfl Tb rfl Ta ah hm 0 rfl fun aF w ah hm=>au 6 ?_
   refine Ja rfl rfl (JE (ln:=0) (hn:=x.2.1) rfl sl273.h rfl ⟨_,rfl⟩ Ta (by have:=ah.le; omega) (fun _ ad e=>by cases e; rfl))<|au 5 ?_
   exact ⟨aF,by rw [Ak,XW (fun a e=>by cases e; rfl)]; rfl,by rw [Ak]; exact (ah.head PY).to ((Y1 _ _ _).trans ((kl Vn _ _).trans (by rw [Ho]))),(hm.pick [0] rfl)⟩
theorem Al:∀ {F:List dR},F≠[]→QZ F∈F:=by
 intro F h
 cases F with
 | nil=>exact absurd rfl h
 | cons x r=>
  show r.foldl _ x∈_
  have:∀ (r:List dR) (b:dR),r.foldl (fun b y=>if b.sq<y.sq then y else b) b=b∨r.foldl (fun b y=>if b.sq<y.sq then y else b) b∈r:=by
   intro r
   induction r with
   | nil=>intro b; exact .inl rfl
   | cons y r ih=>
    intro b
    rw [List.foldl_cons]
    rcases ih (if b.sq<y.sq then y else b) with h1 | h1
    · rw [h1]; split
      · exact .inr Tc
      · exact .inl rfl
    · exact .inr (LX _ h1)
  rcases this r x with h1 | h1
  · rw [h1]; simp
  · exact LX _ h1
theorem DC{xs:List dR}{w:World}{k:Int}(hd:∀ x∈xs,Rd w x.d.p (x.d.bs.flatMap Jk)∧x.d.bs.length≤140737488355328):Rd w (QZ (xs.filter fun x=>decide (x.id=k))).d.p ((QZ (xs.filter fun x=>decide (x.id=k))).d.bs.flatMap Jk)∧(QZ (xs.filter fun x=>decide (x.id=k))).d.bs.length≤140737488355328:=by
 by_cases h:(xs.filter fun x=>decide (x.id=k))=[]
 · rw [h]; exact ⟨rfl,Tb⟩
 · exact hd _ (L5.1 (Al h)).1
theorem wL(k:Int)(p:Tg)(cap:Nat)(xs:List dR)(w0:World)(hx:Rd w0 p (xs.flatMap Xz))(hlen:xs.length≤1048576)(hd:∀ x∈xs,Rd w0 x.d.p (x.d.bs.flatMap Jk)∧x.d.bs.length≤140737488355328):C Tryz.prog 180 [.int .u64 k,.slice p xs.length cap] w0 fun v w'=>∃ q c g b,v=.tuple ⟨[.agg ⟨Bk (QZ (xs.filter fun x=>decide (x.id=k))).rc q (QZ (xs.filter fun x=>decide (x.id=k))).rc.bs.length c⟩,.bool (decide (0<(xs.filter fun x=>decide (x.id=k)).length))]⟩∧Acc 5 1 q (QZ (xs.filter fun x=>decide (x.id=k))).rc.bs.length c ((QZ (xs.filter fun x=>decide (x.id=k))).rc.bs.flatMap Jk) g b∧Mem w0 w' No [(g,b)]:=by
 have yi:(xs.filter fun x=>!(fun x=>decide (x.id≠k)) x)=(xs.filter fun x=>decide (x.id=k)):=by congr 1; funext x; by_cases h:x.id=k <;> simp [h]
 obtain ⟨hBd,hBl⟩:=DC (k:=k) hd
 have bY:(xs.filter fun x=>decide (x.id=k)).length≤xs.length:=List.length_filter_le _ _
 refine aH Tryz.func180 fun κ _ Je Jc hm=>?_
 refine au 2 ?_
 refine bT hm fun m1 w hm=>?_
 refine aT hm fun m2 w hm=>?_
 refine au 6 ?_
 refine cT rfl rfl rfl (Hn p cap xs _ (hx.Jj hm.to) Ta) fun v w hR=>?_
 obtain ⟨aK,aj,aI,aF,rfl,ah,ae⟩:=hR
 have q6:aF.real=true→_:=fun hr=>(ae.fresh _ Lo hr).resolve_left id
 replace hm:=hm.Jt ae
 refine au 1 ?_
 refine cT rfl rfl rfl (UH aK aj xs aI aF 227 [.pointer (some ⟨m1,0,none⟩)] (fun x=>decide (x.id≠k)) _ ah (fun hr=>hm.nV (k:=0) rfl hr) Ta go227 (fun x w1 hE=>uj x k m1 w1 ((hE.same m1 ((Lb.1 (hm.get (k:=2) rfl)).1) (hm.neB 2 0 rfl rfl rfl)).trans (hm.get (k:=2) rfl)))) fun v w hR=>?_
 obtain ⟨aF,rfl,ah,ae⟩:=hR
 replace hm:=hm.Cz 0 rfl ae
 simp only [yi] at ah ⊢
 refine cA rfl rfl rfl (ri aK aj (xs.filter fun x=>decide (x.id=k)) _ (ah.rd hm 0 rfl) Ta) hm fun w hm=>au 3 ?_
 refine aT hm fun m3 w hm=>?_
 refine st hm 0 fun w hm=>?_
 refine au 7 ?_
 refine cT rfl rfl rfl (V0 (QZ (xs.filter fun x=>decide (x.id=k))).d.p (QZ (xs.filter fun x=>decide (x.id=k))).d.cap (QZ (xs.filter fun x=>decide (x.id=k))).d.bs _ (hBd.Jj hm.to) Ta) fun v w hR=>?_
 obtain ⟨om,cC,r6,jT,rfl,df,ae⟩:=hR
 have Ai:jT.real=true→_:=fun hr=>(ae.fresh _ Lo hr).resolve_left id
 replace hm:=hm.Jt ae
 refine au 1 ?_
 refine st hm 1 fun w hm=>?_
 refine au 6 ?_
 refine st hm 3 fun w hm=>?_
 refine au 5 ?_
 exact ⟨om,cC,r6,jT,rfl,df,(hm.pick [0] rfl)⟩
def jbd(pm:Value)(f b k:Int)(S:Pl.Jn)(p:Tg)(c:Nat):List Value:=
 [pm,.int .i64 f,.int .i64 b,.int .u64 k,.int .u64 S.nx,.int .u64 S.la.sq,.int .u64 S.la.id,.int .i64 S.la.cu,.int .i64 S.la.of,.slice p S.la.bs.length c,.bool S.has]
def JZ(TJ U8 m:Nat)(f b k:Int)(S:Pl.Jn)(j:Nat)(Zj:Tf):Prop:=
 ∃ p c g bb,Zj=[(j,.row TJ (jbd (.pointer (some ⟨m,0,none⟩)) f b k S p c)),(g,bb)]∧Acc U8 1 p S.la.bs.length c (S.la.bs.flatMap Jk) g bb
def NL(B:Tf)(U8:Nat)(s:SB):Prop:=∃ (g:Nat) (b:ag) (p:Tg) (c:Nat) (al:Th),(g,b)∈B∧Acc U8 1 p al.length c (al.flatMap Jk) g b∧s.p=bP p c 40 1∧al.drop 40=s.bs
theorem NL.mono{B C:Tf}{U8:Nat}{s:SB}(h:NL B U8 s)(hs:∀ e,e∈B→e∈C):NL C U8 s:=by
 obtain ⟨g,b,p,c,al,h1,h2⟩:=h
 exact ⟨g,b,p,c,al,hs _ h1,h2⟩
theorem NL.rd{B L:Tf}{U8:Nat}{s:SB}{w0 w:World}{X:Bs}(h:NL B U8 s)(hm:Mem w0 w X L)(hs:∀ e,e∈B→e∈L):Rd w s.p (s.bs.flatMap Jk):=by
 obtain ⟨g,b,p,c,al,h1,h2,h3,h4⟩:=h
 have h5:=(h2.MF hm (hs _ h1)).mz (l:=40) h2.le
 rw [h4] at h5
 rw [h3]
 exact h5
theorem jbe{q1 q2 a b c:Nat×ag}{M B:Tf}:([q1,q2]++M++([a,b,c]++B)).Perm (q1::q2::a::b::c::(M++B)):=by
 rw [Lp]
 exact ((List.perm_append_comm_assoc M [a,b,c] B).append_left [q1,q2])
theorem yj:∀ (l:List dR) (x:dR),(l.foldl (fun b y=>if b.sq<y.sq then y else b) x).rc=(l.map dR.rc).foldl (fun b y=>if b.sq<y.sq then y else b) x.rc
 | [],x=>rfl
 | y::r,x=>by
  rw [List.foldl_cons,Ka,List.foldl_cons,yj r]
  congr 1
  show (if x.sq<y.sq then y else x).rc=if x.sq<y.sq then y.rc else x.rc
  split <;> rfl
theorem DD(l:List dR):(QZ l).rc=Pl.mI (l.map dR.rc):=by
 cases l with
 | nil=>rfl
 | cons x r=>exact yj r x
theorem Hp(k:Int)(l:List dR):(l.filter fun x=>decide (x.id=k)).map dR.rc=(l.map dR.rc).filter fun r=>decide (r.id=k):=by
 rw [List.filter_map]; rfl
theorem uk(r:Pl.Rc)(p:Tg)(cap:Nat)(w0:World)(hx:Rd w0 p (r.bs.flatMap Jk))(hk:Pl.ob r)(hl:r.bs.length≤70368744177600)(hr:Pl.bt r=true):C Tryz.prog 263 [.agg ⟨Bk r p r.bs.length cap⟩] w0 fun v w'=>∃ q c g b,v=.tuple ⟨[.slice q (Pl.aC r).length c,.int .i64 0]⟩∧Acc 5 1 q (Pl.aC r).length c ((Pl.aC r).flatMap Jk) g b∧Mem w0 w' No [(g,b)]:=
 (ng r p cap w0 hx hk hl).mono fun v w' h=>by
  simp only [hr,if_true] at h
  exact h
theorem um(r:Pl.Rc)(p:Tg)(cap:Nat)(w0:World)(hx:Rd w0 p (r.bs.flatMap Jk))(hk:Pl.ob r)(hl:r.bs.length≤70368744177600)(hr:Pl.bt r=false):C Tryz.prog 263 [.agg ⟨Bk r p r.bs.length cap⟩] w0 fun v w'=>(∃ q c,v=.tuple ⟨[.slice q 0 c,.int .i64 2]⟩)∧Ext No w0 w':=
 (ng r p cap w0 hx hk hl).mono fun v w' h=>by
  simp only [hr,L0,if_false] at h
  obtain ⟨q,c,g,b,h1,_,h3⟩:=h
  exact ⟨⟨q,c,h1⟩,h3.to⟩
theorem DE(r:Pl.Rc)(p:Tg)(cap:Nat)(bs:Th)(w0:World)(hx:Rd w0 p (bs.flatMap Jk))(hle:bs.length≤cap)(cU:cap≠0→∀ ad,p=some ad→ad.spot=none)(hl:bs.length≤70368744177664)(hr:Pl.eE bs=some r):C Tryz.prog 179 [.slice p bs.length cap] w0 fun v w'=>∃ (pa:Tg) (ca g:Nat) (b:ag) (al:Th),v=.tuple ⟨[.agg ⟨Bk r (bP pa ca 40 1) r.bs.length (ca-40)⟩,.int .i64 0]⟩∧Acc 5 1 pa al.length ca (al.flatMap Jk) g b∧al.drop 40=r.bs∧Mem w0 w' No [(g,b)]:=
 (nh p cap bs w0 hx hle cU hl).mono fun v w' h=>by
  simp only [hr,Option.getD_some,Option.isSome_some,if_true] at h
  exact h
theorem DF(p:Tg)(cap:Nat)(bs:Th)(w0:World)(hx:Rd w0 p (bs.flatMap Jk))(hle:bs.length≤cap)(cU:cap≠0→∀ ad,p=some ad→ad.spot=none)(hl:bs.length≤70368744177664)(hr:Pl.eE bs=none):C Tryz.prog 179 [.slice p bs.length cap] w0 fun v w'=>(∃ q c,v=.tuple ⟨[.agg ⟨Bk Pl.Fz q 0 c⟩,.int .i64 19]⟩)∧Ext No w0 w':=
 (nh p cap bs w0 hx hle cU hl).mono fun v w' h=>by
  simp only [hr,Option.getD_none,Option.isSome_none,L0,if_false] at h
  obtain ⟨q,c,g,b,al,h1,_,_,h3⟩:=h
  exact ⟨⟨_,_,h1⟩,h3.to⟩
theorem pJ(D:Pl.Dv)(m:Nat)(Z:Tf)(w0:World)(hZ:Jr w0 Z)(hz:JV 112 258 5 D m Z)(f b:Int)(hb:Pl.aA b):C Tryz.prog 216 [.agg ⟨[.pointer (some ⟨m,0,none⟩),.int .i64 f,.int .i64 b]⟩] w0 fun v w'=>v=.int .i64 (Pl.slot (D.sz:Int) b)∧Ext No w0 w':=by
 have aq:=hz.ok
 have o1:=aq.sz
 have o4:=aq.max
 have o3:=aq.cnt
 have o5:D.cnt≤D.cnt*D.sz:=Lu _ o1
 have o7:D.sz≤D.cnt*D.sz:=L1 _ o3
 refine aH Tryz.func216 fun κ _ Je Jc hm=>?_
 refine au 2 ?_
 refine bT hm fun m1 w hm=>?_
 refine au 4 ?_
 refine dw [0,3,9,12,7,2,16,18] hm fun w hw ar hh hm=>?_
 refine au 4 ?_
 refine cB rfl rfl rfl (Xt D m Z _ (hZ.ext hm.to) hz) hm hh fun w hm hh=>au 1 ?_
 refine cA rfl rfl rfl (Db (D.sz:Int) b _ (by simp only [Pl.aA]; omega) hb) hm fun w hm=>au 5 ?_
 exact ⟨rfl,hm.to⟩
theorem gW(D:Pl.Dv)(m:Nat)(Z:Tf)(w0:World)(hZ:Jr w0 Z)(hz:JV 112 258 5 D m Z)(f N:Nat)(b:Int)(hb:Pl.aA b)(hN:Pl.slot (D.sz:Int) b=(N:Int))(i:Nat)(cR:f+i*N+N≤D.cnt):C Tryz.prog 178 [.agg ⟨[.pointer (some ⟨m,0,none⟩),.int .i64 (f:Int),.int .i64 b]⟩,.int .i64 (i:Int)] w0 fun v w'=>v=.agg ⟨[.int .i64 (((f+i*N)*D.sz:Nat):Int),.int .i64 ((N*D.sz:Nat):Int)]⟩∧Ext No w0 w':=by
 have aq:=hz.ok
 have o1:=aq.sz
 have o4:=aq.max
 have o3:=aq.cnt
 have o5:D.cnt≤D.cnt*D.sz:=Lu _ o1
 have o7:D.sz≤D.cnt*D.sz:=L1 _ o3
 have e1:(f+i*N+N)*D.sz≤D.cnt*D.sz:=Lr _ cR
 rw [Kh _ N] at e1
 refine aH Tryz.func178 fun κ _ Je Jc hm=>?_
 refine au 2 ?_
 refine bT hm fun m1 w hm=>?_
 refine aT hm fun m2 w hm=>?_
 refine au 5 ?_
 refine cA rfl rfl rfl (C.as (v:=.int .i64 (N:Int)) (pJ D m Z _ (hZ.ext hm.to) hz (f:Int) b hb) (by rw [hN])) hm fun w hm=>au 4 ?_
 refine dw [0,3,6,9,12,15,18,21,30,33,36,25,27,40,42,2,45,49] hm fun w hw ar hh hm=>?_
 refine au 4 ?_
 refine Ja rfl rfl (Vy rfl rfl (n4 Ta))<|Ja rfl rfl (J5 rfl rfl (tj _ Ta))<|au 5 ?_
 refine cB rfl rfl rfl (Xt D m Z _ (hZ.ext hm.to) hz) hm hh fun w hm hh=>Ja rfl rfl (Vy rfl rfl (n4 Ta))<|cB rfl rfl rfl (Xt D m Z _ (hZ.ext hm.to) hz) hm hh fun w hm hh=>Ja rfl rfl (Vy rfl rfl (n4 Ta))<|au 2 ?_
 refine st hm 0 fun w hm=>?_
 refine au 4 ?_
 exact ⟨rfl,hm.to⟩
theorem DG(D:Pl.Dv)(m:Nat)(Z:Tf)(w0:World)(hZ:Jr w0 Z)(hz:JV 112 258 5 D m Z)(f b:Int)(hf:Pl.aA f)(hb:Pl.aA b):C Tryz.prog 175 [.agg ⟨[.pointer (some ⟨m,0,none⟩),.int .i64 f,.int .i64 b]⟩] w0 fun v w'=>v=.int .i64 (Pl.qN D f b)∧Ext No w0 w':=by
 have aq:=hz.ok
 have o4:=aq.max
 have o5:D.cnt≤D.cnt*D.sz:=Lu _ aq.sz
 have hsb:=Pl.lI (D.sz:Int) b
 simp only [Pl.aA] at hf
 have UJ:Pl.qN D f b=if Pl.slot (D.sz:Int) b=0 then 20 else if f<0∨(D.cnt:Int)<f∨(D.cnt:Int)-f<2*Pl.slot (D.sz:Int) b then 17 else 0:=rfl
 refine aH Tryz.func175 fun κ _ Je Jc hm=>?_
 refine au 2 ?_
 refine bT hm fun m1 w hm=>?_
 refine au 7 ?_
 refine cA rfl rfl rfl (pJ D m Z _ (hZ.ext hm.to) hz f b hb) hm fun w hm=>au 20 ?_
 refine cd (fun ao=>?_) fun ao=>?_
 ·
  simp only [dT] at ao
  refine au 9 ?_
  exact ⟨by rw [UJ,LI ao],hm.to⟩
 ·
  simp only [dF] at ao
  refine au 1 ?_
  rcases (show f<0∨(0≤f∧(D.cnt:Int)<f)∨(0≤f∧f≤(D.cnt:Int)) by omega) with hA | ⟨hA,hB⟩ | ⟨hA,hB⟩
  ·
   refine dw [0,3,6,9,12,15,18,21,25,27,30,33,36,39,45,48,54,57,43,51,60,63,66] hm fun w hw ar hh hm=>?_
   refine au 2 ?_
   refine Ja rfl rfl (JA (c:=true) (VO rfl rfl) (LQ hA))<|au 32 ?_
   exact ⟨by rw [UJ,LH ao,LI Ta],hm.to⟩
  ·
   refine dw [0,3,6,9,12,15,18,21,25,27,30,33,36,39,45,48,54,57,43,51,60,63,66] hm fun w hw ar hh hm=>?_
   refine au 2 ?_
   refine Ja rfl rfl (JA (c:=false) (VO rfl rfl) (LN Ta))<|au 5 ?_
   refine cB rfl rfl rfl (X6 D m Z _ (hZ.ext hm.to) hz) hm hh fun w hm hh=>Ja rfl rfl (JA (c:=true) (XE rfl rfl) (LQ hB))<|au 25 ?_
   exact ⟨by rw [UJ,LH ao,LI Ta],hm.to⟩
  ·
   refine dw [0,3,6,9,12,15,18,21,25,27,30,33,36,39,45,48,54,57,43,51,60,63,66] hm fun w hw ar hh hm=>?_
   refine au 2 ?_
   refine Ja rfl rfl (JA (c:=false) (VO rfl rfl) (LN Ta))<|au 5 ?_
   refine cB rfl rfl rfl (X6 D m Z _ (hZ.ext hm.to) hz) hm hh fun w hm hh=>Ja rfl rfl (JA (c:=false) (XE rfl rfl) (LN Ta))<|au 8 ?_
   refine cB rfl rfl rfl (X6 D m Z _ (hZ.ext hm.to) hz) hm hh fun w hm hh=>au 6 ?_
   refine cd (fun aD=>?_) fun aD=>?_
   ·
    simp only [dT] at aD
    refine au 9 ?_
    exact ⟨by rw [UJ,LH ao,LI Ta],hm.to⟩
   ·
    simp only [dF] at aD
    refine au 10 ?_
    exact ⟨by rw [UJ,LH ao,LH Ta],hm.to⟩
theorem ku{D:Pl.Dv}(h:Pl.okDv D)(a b:Int):(Pl.bw D a b).length≤1048576:=by
 have h1:=Pl.Xh h
 have h2:=h.max
 unfold Pl.bw
 split
 · rw [Lg,Lm]; omega
 · exact LL _
theorem Hq(D:Pl.Dv)(m:Nat)(Z:Tf)(w0:World)(hZ:Jr w0 Z)(hz:JV 112 258 5 D m Z)(f N:Nat)(b:Int)(hb:Pl.aA b)(hN:Pl.slot (D.sz:Int) b=(N:Int))(k:Int)(i:Nat)(h2:f+2*N≤D.cnt)(dY:i<2)(eB:D.dn=false)(q1 q2 q3 j:Nat)(NM:w0.heap[q1]?=some (ag.row 67 [.pointer (some ⟨m,0,none⟩)]).Jd)(NN:w0.heap[q2]?=some (ag.row 181 [.pointer (some ⟨j,0,none⟩)]).Jd)(hj:w0.heap[j]?=some (ag.row 271 [.pointer (some ⟨m,0,none⟩),.int .i64 (f:Int),.int .i64 b,.int .u64 k,.int .u64 1,.int .u64 0,.int .u64 0,.int .i64 0,.int .i64 0,.slice none 0 0,.bool false]).Jd)(aK:Tg)(aj aI:Nat)(aF:ag)(xs:List dR)(ah:Acc 225 5 aK xs.length aj (xs.flatMap Xz) aI aF)(hO:Jr w0 [(q3,.row 273 [.slice aK xs.length aj]),(aI,aF)])(hlen:xs.length≤1000):C Tryz.prog 176 [.int .i64 (i:Int),.pointer (some ⟨q1,0,none⟩),.pointer (some ⟨q2,0,none⟩),.pointer (some ⟨q3,0,none⟩)] w0 fun v w'=>v=.int .i64 0∧∃ p' aV g' b' UK B,Acc 225 5 p' (UK:List dR).length aV (UK.flatMap Xz) g' b'∧Mem w0 w' (Mn (ak [(q3,.row 273 [.slice aK xs.length aj]),(aI,aF)])) ((q3,.row 273 [.slice p' UK.length aV])::(g',b')::B)∧UK.map dR.rc=xs.map dR.rc++(Pl.gN D f N i).toList∧∀ y∈UK,y∈xs∨NL B 5 y.d:=by
 have aq:=hz.ok
 have o1:=aq.sz
 have o4:=aq.max
 have o3:=aq.cnt
 have o5:D.cnt≤D.cnt*D.sz:=Lu _ o1
 have o7:D.sz≤D.cnt*D.sz:=L1 _ o3
 have cR:f+i*N+N≤D.cnt:=by rcases (show i=0∨i=1 by omega) with h9 | h9 <;> rw [h9] <;> omega
 have e1:(f+i*N+N)*D.sz≤D.cnt*D.sz:=Lr _ cR
 rw [Kh _ N] at e1
 have ND:Pl.Q6 D (((f+i*N)*D.sz:Nat):Int) ((N*D.sz:Nat):Int)=0:=Pl.CO aq eB h2 dY
 refine aH Tryz.func176 fun κ _ Je Jc hm=>?_
 refine au 6 ?_
 refine dw [0,3,6,9,12,15,19,22,24,27,30,33,36] hm fun w hw ar hh hm=>?_
 refine au 4 ?_
 refine Ja rfl rfl (Jm (s:=3) (vs:=[_,_,_]) rfl ag269.h (fun u hu=>((ar.to.trans hu).same _ (Lb.1 hj).1 id).trans hj) rfl)<|au 1 ?_
 refine cB rfl rfl rfl (gW D m Z _ (hZ.ext hm.to) hz f N b hb hN i cR) hm hh fun w hm hh=>ca rfl rfl rfl (Hk D m Z _ (hZ.ext hm.to) hz (((f+i*N)*D.sz:Nat):Int) ((N*D.sz:Nat):Int) (by simp only [Pl.aA]; omega) (by simp only [Pl.aA]; omega)) fun v w hR=>?_
 obtain ⟨p_d,yk,g_d,b_d,rfl,rj,ae⟩:=hR
 refine ⟨hh.ext ae.to,?_⟩
 have hg_d:b_d.real=true→_:=fun hr=>(ae.fresh _ Lo hr).resolve_left id
 replace hh:=hh.ext ae.to
 replace hm:=hm.Jt ae
 rw [ND]
 refine au 11 ?_
 refine Ja rfl rfl (JA (c:=false) (XD rfl rfl) Tb)<|au 7 ?_
 cases hr:Pl.gN D f N i
 ·
  refine au 2 ?_
  refine cT rfl rfl rfl (DF p_d yk (Pl.bw D (((f+i*N)*D.sz:Nat):Int) ((N*D.sz:Nat):Int)) _ (rj.rd hm 0 rfl) rj.le rj.spot (Ki (ku aq _ _) Tb) hr) fun v w hR=>?_
  obtain ⟨⟨q_,c_,rfl⟩,hE⟩:=hR
  replace hm:=hm.ext hE
  refine au 3 ?_
  refine aT hm fun m1 w hm=>?_
  refine st hm 0 fun w hm=>?_
  refine au 6 ?_
  refine Ja rfl rfl (JA (c:=false) (V3 rfl rfl) Tb) ?_
  replace hm:=hm.Zp hO
  refine au 12 ?_
  exact ⟨rfl,aK,aj,aI,aF,xs,[],ah,(hm.pick [2,3] rfl),by rw [hr]; simp,fun y hy=>.inl hy⟩
 ·
  rename_i rr
  refine au 2 ?_
  refine cT rfl rfl rfl (DE rr p_d yk (Pl.bw D (((f+i*N)*D.sz:Nat):Int) ((N*D.sz:Nat):Int)) _ (rj.rd hm 0 rfl) rj.le rj.spot (Ki (ku aq _ _) Tb) hr) fun v w hR=>?_
  obtain ⟨NO,jI,NP,NQ,jbf,rfl,rk,UL,ae⟩:=hR
  replace hm:=hm.Jt ae
  refine au 3 ?_
  refine aT hm fun m1 w hm=>?_
  refine st hm 0 fun w hm=>?_
  refine au 6 ?_
  refine Ja rfl rfl (JA (c:=true) (V3 rfl rfl) Tb) ?_
  replace hm:=hm.Zp hO
  refine au 6 ?_
  refine Jb (l:=[_,_,_,_,_]) rfl rfl sl273.h z225.h rfl rfl rfl rfl rfl rfl rfl hm trivial fun m2 w bo hm hh=>Jy rfl rfl rfl rfl rfl rfl sl273.h sl273.h z225.h rfl rfl (Rd.JL (hm.get (k:=0) rfl)) rfl ah hm 5 rfl Ta Ta fun aK aj aI aF w ah hm=>st hm 4 fun w hm=>?_
  refine au 9 ?_
  refine ⟨rfl,aK,aj,aI,aF,xs++[(⟨rr.sq,rr.id,rr.cu,rr.of,⟨bP NO jI 40 1,jI-40,rr.bs⟩⟩:dR)],[(NP,NQ)],(by rw [Lc]; exact ah.to (by rw [Lh]; rfl)),(by rw [Lc]; exact (hm.pick [4,5,2] rfl)),by rw [hr,Lx]; rfl,fun y hy=>?_⟩
  rcases Ls.1 hy with h9 | h9
  · exact .inl h9
  · rw [Lf.1 h9]; exact .inr ⟨NP,NQ,NO,jI,jbf,Tc,rk,rfl,UL⟩
theorem uo{b:Th}{r:Pl.Rc}(h:Pl.eE b=some r):r.bs.length≤b.length:=by
 unfold Pl.eE at h
 simp only at h
 split at h
 · cases h
 · split at h
   · cases h
     simp only [Lm,Lg]
     omega
   · cases h
theorem Pl.Am{D:Pl.Dv}(h:Pl.okDv D){f N:Nat}{r:Pl.Rc}(hr:r∈Pl.eO D f N):r.bs.length≤1048576:=by
 unfold Pl.eO at hr
 rcases Ls.1 hr with h1 | h1
 · exact Ki (uo (Option.mem_toList.1 h1)) (ku h _ _)
 · exact Ki (uo (Option.mem_toList.1 h1)) (ku h _ _)
theorem jJ(k:Int)(p:Tg)(cap:Nat)(xs:List dR)(l:List Pl.Rc)(hl:xs.map dR.rc=l)(w0:World)(hx:Rd w0 p (xs.flatMap Xz))(hlen:xs.length≤1048576)(hd:∀ x∈xs,Rd w0 x.d.p (x.d.bs.flatMap Jk)∧x.d.bs.length≤140737488355328) :
 C Tryz.prog 180 [.int .u64 k,.slice p xs.length cap] w0 fun v w'=>∃ q c g b,v=.tuple ⟨[.agg ⟨Bk (Pl.mI (l.filter fun r=>decide (r.id=k))) q (Pl.mI (l.filter fun r=>decide (r.id=k))).bs.length c⟩,.bool (decide (0<(l.filter fun r=>decide (r.id=k)).length))]⟩∧Acc 5 1 q (Pl.mI (l.filter fun r=>decide (r.id=k))).bs.length c ((Pl.mI (l.filter fun r=>decide (r.id=k))).bs.flatMap Jk) g b∧Mem w0 w' No [(g,b)]:=by
 have h:=wL k p cap xs w0 hx hlen hd
 have e1:=Hp k xs
 have e2:(xs.filter fun x=>decide (x.id=k)).length=(l.filter fun r=>decide (r.id=k)).length:=by rw [← hl,← e1,Lj]
 rw [hl] at e1
 rw [DD,e1,e2] at h
 exact h
theorem Hr{D:Pl.Dv}{f N:Nat}{b:Int}(hN:Pl.slot (D.sz:Int) b=(N:Int))(h0:N≠0)(h2:f+2*N≤D.cnt):Pl.qN D (f:Int) b=0:=by
 unfold Pl.qN
 rw [hN,LH Ta,LH Ta]
theorem NR(D:Pl.Dv)(m:Nat)(Z:Tf)(w0:World)(hZ:Jr w0 Z)(hz:JV 112 258 5 D m Z)(f N:Nat)(b:Int)(hb:Pl.aA b)(hN:Pl.slot (D.sz:Int) b=(N:Int))(h0:N≠0)(h2:f+2*N≤D.cnt)(k:Int)(eB:D.dn=false):C Tryz.prog 144 [.pointer (some ⟨m,0,none⟩),.int .i64 (f:Int),.int .i64 b,.int .u64 k] w0 fun v w'=>∃ j Zj,v=.tuple ⟨[.pointer (some ⟨j,0,none⟩),.int .i64 0]⟩∧JZ 271 5 m (f:Int) b k (Pl.bG D f N k) j Zj∧Mem w0 w' No Zj:=by
 have aq:=hz.ok
 have o1:=aq.sz
 have o4:=aq.max
 have o3:=aq.cnt
 have o5:D.cnt≤D.cnt*D.sz:=Lu _ o1
 have o7:D.sz≤D.cnt*D.sz:=L1 _ o3
 refine aH Tryz.func144 fun κ _ Je Jc hm=>?_
 refine au 2 ?_
 refine bT hm fun m1 w hm=>?_
 refine au 9 ?_
 refine Ja rfl rfl (Qe (cs:=[_,_,_]) z269.h ft269.h rfl rfl rfl rfl rfl)<|au 1 ?_
 refine Ja rfl rfl (Qe (cs:=[_,_,_,_,_,_,_,_,_,_,_]) z271.h ft271.h rfl rfl rfl rfl rfl)<|bT hm fun m2 w hm=>?_
 refine aT hm fun m3 w hm=>?_
 refine st hm 0 fun w hm=>?_
 refine Qc<|QV<|Qb rfl<|Qb rfl<|JT (.pure 0 (.pure 1 (.pure 2 (.pure 3 (.act 4 (.pure 5 .done)))))) Te<|Ja rfl rfl (Jh rfl sc181.h (hm.nt 0 rfl) rfl)<|Ja rfl rfl (oI rfl)<|Ja rfl rfl (Jv rfl fo271_0.h)<|Ja rfl rfl (Jm (s:=3) (vs:=[_,_,_]) rfl ag269.h (hm.nt 1 rfl) rfl)<|cA rfl rfl rfl (C.as (v:=.int .i64 0) (DG D m Z _ (hZ.ext hm.to) hz (f:Int) b (by simp only [Pl.aA]; omega) hb) (by rw [Hr hN h0 h2])) hm fun w hm=>au 6 ?_
 refine Ja rfl rfl (JA (c:=false) (XD rfl rfl) Tb)<|au 7 ?_
 refine aT hm fun m4 w hm=>?_
 replace hm:=hm.JP
 have ah:=Acc.nil 225 5 none 0
 refine au 15 ?_
 refine Jg (ι:=Nat×Ow×List dR×List (Nat×ag)) rfl (ks:=[3,10,12,13]) Tn (fun x=>[(34,.int .i64 x.1)]) (fun x w=>Mem w0 w No ((m4,.row 273 [.slice x.2.1.p x.2.2.1.length x.2.1.cap])::(x.2.1.g,x.2.1.b)::(m3,.row 181 [.pointer (some ⟨m2,0,none⟩)])::(m2,.row 271 [.pointer (some ⟨m,0,none⟩),.int .i64 (f:Int),.int .i64 b,.int .u64 k,.int .u64 1,.int .u64 0,.int .u64 0,.int .i64 0,.int .i64 0,.slice none 0 0,.bool false])::(m1,.row 67 [.pointer (some ⟨m,0,none⟩)])::x.2.2.2)∧Acc 225 5 x.2.1.p x.2.2.1.length x.2.1.cap (x.2.2.1.flatMap Xz) x.2.1.g x.2.1.b∧x.2.2.1.map dR.rc=Pl.zX D f N x.1∧(∀ y∈x.2.2.1,NL x.2.2.2 5 y.d)∧x.1≤2) (fun x=>2-x.1) (0,⟨none,0,0,0,.gap⟩,[],[]) (⟨(hm.pick [1,0,2,3,4] rfl),ah,rfl,Tc,Td⟩) Tm (fun x w hM=>?_)
 obtain ⟨hm,ah,wM,hH,hk⟩:=hM
 refine au 6 ?_
 refine cd (fun ao=>?_) fun ao=>?_
 ·
  simp only [dT] at ao
  have jbg:x.2.2.1.length≤1000:=by have h9:=LM List.length wM; rw [Lj] at h9; have h8:=Pl.mJ D f N x.1; omega
  refine au 14 ?_
  refine Qf rfl rfl rfl rfl go176 (Hq D m Z _ (hZ.ext hm.to) hz f N b hb hN k x.1 h2 Ta eB m1 m3 m4 m2 (hm.get (k:=4) rfl) (hm.get (k:=2) rfl) (hm.get (k:=3) rfl) x.2.1.p x.2.1.cap x.2.1.g x.2.1.b x.2.2.1 ah (Jr.left (A:=[_,_]) hm.Jz) jbg) fun v w hR=>?_
  obtain ⟨rfl,aK,aj,aI,aF,jbh,B_n,ah,ae,UM,jbi⟩:=hR
  refine ⟨trivial,?_⟩
  replace hm:=(Mem.xI (Z:=[_,_]) (L:=[_,_,_]++_) hm ae).perm jbe
  refine au 6 ?_
  refine Ja rfl rfl (JA (c:=false) (XD rfl rfl) Tb)<|au 10 ?_
  refine next (x.1+1,⟨aK,0,aj,aI,aF⟩,jbh,B_n++x.2.2.2) Td ⟨(hm.Jp [0,1,2,3,4] 5 rfl),ah,by rw [UM,wM,Pl.Zb],fun y hy=>(jbi y hy).elim (fun h9=>(hH y h9).mono fun e he=>Ly _ he) (fun h9=>h9.mono fun e he=>Lw _ he),Td⟩ ⟨nx x.1,Tm⟩
 ·
  simp only [dF] at ao
  obtain ⟨i9,⟨aK,n9,aj,aI,aF⟩,xs,BB⟩:=x
  simp only at hm ah wM hH hk ao ⊢
  obtain rfl:i9=2:=by omega
  rw [Pl.tD] at wM
  have rZ:xs.length≤2:=by have h9:=LM List.length wM; rw [Lj] at h9; have h8:=Pl.mJ D f N 2; rw [Pl.tD] at h8; omega
  have kf:∀ y∈xs,∀ u (X:Bs) L,Mem w0 u X L→(∀ e,e∈BB→e∈L)→Rd u y.d.p (y.d.bs.flatMap Jk):=fun y hy u X L h9 h8=>(hH y hy).rd h9 h8
  have cO:∀ y∈xs,y.d.bs.length≤1048576:=fun y hy=>Pl.Am hz.ok (show y.rc∈Pl.eO D f N by rw [← wM]; exact List.mem_map_of_mem hy)
  refine au 14 ?_
  refine Jg (ι:=Nat×Int) rfl (ks:=[3,10,12,44,45]) Tn (fun y=>[(46,.int .i64 y.1)]) (fun y w=>Mem w0 w No ((m4,.row 273 [.slice aK xs.length aj])::(aI,aF)::(m3,.row 181 [.pointer (some ⟨m2,0,none⟩)])::(m2,.row 271 [.pointer (some ⟨m,0,none⟩),.int .i64 (f:Int),.int .i64 b,.int .u64 k,.int .u64 y.2,.int .u64 0,.int .u64 0,.int .i64 0,.int .i64 0,.slice none 0 0,.bool false])::(m1,.row 67 [.pointer (some ⟨m,0,none⟩)])::BB)∧y.1≤xs.length∧(y.1=0→y.2=1)∧(y.1=1→∀ e,xs[0]?=some e→y.2=IntKind.u64.wrap (e.sq+1))) (fun y=>xs.length-y.1) (0,1) (⟨(hm.Jp [0,1,2,3,4] 5 rfl),LL _,fun _=>rfl,fun h9=>absurd h9 Td⟩) Tm (fun y w hM=>?_)
  obtain ⟨hm,hky,Fx,sK⟩:=hM
  refine au 6 ?_
  refine cd (fun bg=>?_) fun bg=>?_
  ·
   simp only [dT] at bg
   obtain ⟨e,hi⟩:∃ y_,xs[y.1]?=some y_:=⟨_,La Ta⟩
   obtain rfl:=ah.ptr Ta
   refine au 8 ?_
   refine Ja rfl rfl (JU rfl ag225.h (ah.rd hm 1 rfl).nt Vn hi)<|aT hm fun m5 w hm=>?_
   refine au 1 ?_
   refine st hm 0 fun w hm=>?_
   refine au 3 ?_
   by_cases Nu:y.1=0
   ·
    refine dw [0,3,6,9,12,15,18,21,24,27,30] hm fun w hw ar hh hm=>?_
    refine au 1 ?_
    refine Ja rfl rfl (JA (c:=true) (V3 rfl rfl) (LQ Ta))<|au 16 ?_
    refine Ja rfl rfl (J5 rfl rfl rfl)<|au 2 ?_
    refine st hm 4 fun w hm=>?_
    refine au 7 ?_
    refine next (y.1+1,_) Td ⟨(hm.Jp [1,2,3,4,5] 6 rfl),Td,fun h9=>absurd h9 Td,fun h9 e9 dh=>?_⟩ ⟨nx y.1,Tm⟩
    first
    | (exfalso; simp only at h9; omega)
    | (rw [Nu] at hi; rw [hi] at dh; cases dh; rfl)
   ·
    refine dw [0,3,6,9,12,15,18,21,24,27,30] hm fun w hw ar hh hm=>?_
    refine au 1 ?_
    refine Ja rfl rfl (JA (c:=false) (V3 rfl rfl) (LN Ta))<|au 11 ?_
    refine cd (fun jG=>?_) fun jG=>?_
    ·
     refine au 4 ?_
     refine Ja rfl rfl (J5 rfl rfl rfl)<|au 2 ?_
     refine st hm 4 fun w hm=>?_
     refine au 7 ?_
     refine next (y.1+1,_) Td ⟨(hm.Jp [1,2,3,4,5] 6 rfl),Td,fun h9=>absurd h9 Td,fun h9 e9 dh=>?_⟩ ⟨nx y.1,Tm⟩
     first
     | (exfalso; simp only at h9; omega)
     | (rw [Nu] at hi; rw [hi] at dh; cases dh; rfl)
    ·
     refine au 7 ?_
     refine next (y.1+1,_) Td ⟨(hm.Jp [1,2,3,4,5] 6 rfl),Td,fun h9=>absurd h9 Td,fun h9 e9 dh=>?_⟩ ⟨nx y.1,Tm⟩
     first
     | (exfalso; simp only at h9; omega)
     | (rw [Nu] at hi; rw [hi] at dh; cases dh; rfl)
  ·
   simp only [dF] at bg
   have Ad:y.1=xs.length:=by omega
   refine au 13 ?_
   refine cd (fun uq=>?_) fun uq=>?_
   ·
    simp only [dT] at uq
    obtain ⟨e0,e1,rfl⟩:∃ a b,xs=[a,b]:=by match xs,uq with | [a,b],_=>exact ⟨a,b,rfl⟩
    obtain rfl:=ah.ptr Tc
    have nM:[e0,e1][0]?=some e0:=rfl
    have ki:[e0,e1][1]?=some e1:=rfl
    refine dw [0,3,6,9,12,15,18,21,24,27,30,2,33,36,40] hm fun w hw ar hh hm=>?_
    refine au 2 ?_
    refine Ja rfl rfl (Qy rfl rfl sl273.h rfl Tb Tc)<|au 1 ?_
    refine Ja rfl rfl (Yr rfl sc55.h (ah.rd ar 1 rfl).nd Vn nM rfl)<|au 1 ?_
    refine Ja rfl rfl (Qy rfl rfl sl273.h rfl Tb Tc)<|au 1 ?_
    refine Ja rfl rfl (Yr rfl sc55.h (ah.rd ar 1 rfl).nd Vn ki rfl)<|au 1 ?_
    refine Ja rfl rfl (J5 rfl rfl rfl)<|au 3 ?_
    refine st hm 3 fun w hm=>?_
    rw [show IntKind.u64.wrap (max e0.sq e1.sq+1)=Pl.CN (Pl.eO D f N) by rw [← wM]; rfl] at hm
    refine au 3 ?_
    refine JS (.pure 0 (.pure 1 (.pure 2 (.pure 3 (.act 4 (.pure 5 (.pure 6 (.pure 7 (.pure 8 (.pure 9 (.act 10 (.pure 11 (.pure 12 (.act 13 .done)))))))))))))) (fun j=>j=m2) fP Te hm fun w hw ar hh=>?_
    have hm:=ar
    refine Ja rfl rfl (Jh rfl sc181.h (ar.nd 2 rfl (ar.ne 2 3 rfl rfl rfl)) rfl)<|Ja rfl rfl (Jh rfl sc181.h (ar.nd 2 rfl (ar.ne 2 3 rfl rfl rfl)) rfl)<|au 1 ?_
    refine Ja rfl rfl (Jh rfl sc273.h (ar.nd 0 rfl (ar.ne 0 3 rfl rfl rfl)) rfl)<|ca rfl rfl rfl (jJ k _ _ _ (Pl.eO D f N) wM _ (ah.rd hm 1 rfl) (Ki rZ Tb) (fun y hy=>⟨kf y hy _ _ _ hm (fun e he=>by simp [Qr,he]),Ki (cO y hy) Tb⟩)) fun v w hR=>?_
    obtain ⟨om,cC,r6,jT,rfl,df,ae⟩:=hR
    refine ⟨hh.ext ae.to,?_⟩
    have Ai:jT.real=true→_:=fun hr=>(ae.fresh _ Lo hr).resolve_left id
    replace hh:=hh.ext ae.to
    replace hm:=hm.Jt ae
    refine au 5 ?_
    refine QO rfl rfl rfl rfl sz225 rfl hm 4 rfl rfl hh (.inr rfl) fun w hm hh=>au 2 ?_
    refine QO rfl rfl rfl rfl sz4 rfl hm 4 rfl rfl hh (.inr rfl) fun w hm hh=>au 11 ?_
    exact ⟨m2,[_,(r6,jT)],rfl,⟨om,cC,r6,jT,rfl,df⟩,(hm.pick [4,0] rfl)⟩
   ·
    simp only [dF] at uq
    have fB:y.2=Pl.CN (Pl.eO D f N):=by
     rw [← wM]
     match xs,Ad,Fx,sK,rZ,uq with
     | [],Ad,Fx,sK,_,_=>exact Fx Ad
     | [e0],Ad,Fx,sK,_,_=>exact sK Ad e0 rfl
     | [_,_],_,_,_,_,h9=>exact absurd rfl h9
     | _::_::_::_,_,_,_,h9,_=>simp only [Li] at h9; omega
    rw [fB] at hm
    refine au 3 ?_
    refine JS (.pure 0 (.pure 1 (.pure 2 (.pure 3 (.act 4 (.pure 5 (.pure 6 (.pure 7 (.pure 8 (.pure 9 (.act 10 (.pure 11 (.pure 12 (.act 13 .done)))))))))))))) (fun j=>j=m2) fP Te hm fun w hw ar hh=>?_
    have hm:=ar
    refine Ja rfl rfl (Jh rfl sc181.h (ar.nd 2 rfl (ar.ne 2 3 rfl rfl rfl)) rfl)<|Ja rfl rfl (Jh rfl sc181.h (ar.nd 2 rfl (ar.ne 2 3 rfl rfl rfl)) rfl)<|au 1 ?_
    refine Ja rfl rfl (Jh rfl sc273.h (ar.nd 0 rfl (ar.ne 0 3 rfl rfl rfl)) rfl)<|ca rfl rfl rfl (jJ k _ _ _ (Pl.eO D f N) wM _ (ah.rd hm 1 rfl) (Ki rZ Tb) (fun y hy=>⟨kf y hy _ _ _ hm (fun e he=>by simp [Qr,he]),Ki (cO y hy) Tb⟩)) fun v w hR=>?_
    obtain ⟨om,cC,r6,jT,rfl,df,ae⟩:=hR
    refine ⟨hh.ext ae.to,?_⟩
    have Ai:jT.real=true→_:=fun hr=>(ae.fresh _ Lo hr).resolve_left id
    replace hh:=hh.ext ae.to
    replace hm:=hm.Jt ae
    refine au 5 ?_
    refine QO rfl rfl rfl rfl sz225 rfl hm 4 rfl rfl hh (.inr rfl) fun w hm hh=>au 2 ?_
    refine QO rfl rfl rfl rfl sz4 rfl hm 4 rfl rfl hh (.inr rfl) fun w hm hh=>au 11 ?_
    exact ⟨m2,[_,(r6,jT)],rfl,⟨om,cC,r6,jT,rfl,df⟩,(hm.pick [4,0] rfl)⟩
theorem YM(D:Pl.Dv)(m:Nat)(Z:Tf)(S:Pl.Jn)(j:Nat)(Zj:Tf)(f N:Nat)(b k:Int)(cu of:Int)(q:Tg)(cq:Nat)(ps:List SB)(BB:Th)(w0:World)(hZ:Jr w0 (Zj++Z))(hz:JV 112 258 5 D m Z)(hj:JZ 271 5 m (f:Int) b k S j Zj)(hb:Pl.aA b)(hN:Pl.slot (D.sz:Int) b=(N:Int))(h0:N≠0)(h2:f+2*N≤D.cnt)(hS:0≤S.nx∧S.nx≤18446744073709551615)(hk:0≤k∧k≤18446744073709551615)(hcu:Pl.aA cu)(hof:Pl.aA of)(hq:Rd w0 q (ps.flatMap encS))(iC:∀ s∈ps,Rd w0 s.p (s.bs.flatMap Jk))(hl:ps.length≤4611686018427387903)(kq:ps.flatMap (·.bs)=BB)(cO:BB.length≤70368744177600)(bL:D.ca.length+D.cnt≤1000000000):C Tryz.prog 236 [.pointer (some ⟨j,0,none⟩),.int .i64 cu,.int .i64 of,.slice q ps.length cq] w0 fun v w'=>v=.int .i64 (Pl.aP D f N b S (Pl.aW S k cu of BB)).1∧∃ Zj' Z',JZ 271 5 m (f:Int) b k (Pl.aP D f N b S (Pl.aW S k cu of BB)).2.2 j Zj'∧JV 112 258 5 (Pl.aP D f N b S (Pl.aW S k cu of BB)).2.1 m Z'∧Mem w0 w' (Mn (ak (Zj++Z))) (Zj'++Z'):=by
 have aq:=hz.ok
 have o1:=aq.sz
 have o4:=aq.max
 have o3:=aq.cnt
 have o5:D.cnt≤D.cnt*D.sz:=Lu _ o1
 obtain ⟨ym,yn,An,Ao,rfl,fJ⟩:=hj
 have hJ:=hZ.get (k:=0) rfl
 have b7:=Pl.tE hN h0
 have yo:((N*D.sz:Nat):Int)=(N:Int)*(D.sz:Int):=Int.natCast_mul N D.sz
 have vS:Pl.ob (Pl.aW S k cu of BB):=⟨hS,hk,hcu,hof⟩
 have aX:=Pl.Xv S
 have sV:IntKind.i64.wrap (S.nx.tmod 2)=((Pl.Jo S:Nat):Int):=by
  have h9:S.nx.tmod 2=((Pl.Jo S:Nat):Int):=by rw [Int.tmod_eq_emod_of_nonneg hS.1]; unfold Pl.Jo; have:=Int.emod_nonneg S.nx (show (2:Int)≠0 by decide); omega
  rw [h9]; exact Ql Ta Ta
 have cR:f+Pl.Jo S*N+N≤D.cnt:=by rcases (show Pl.Jo S=0∨Pl.Jo S=1 by omega) with h9 | h9 <;> rw [h9] <;> omega
 refine aH Tryz.func236 fun κ _ Je Jc hm=>?_
 refine au 16 ?_
 refine JS (.pure 0 (.pure 1 (.pure 2 (.pure 3 (.pure 4 (.pure 5 (.pure 6 (.pure 7 (.pure 8 (.pure 9 (.pure 10 (.act2 11 (.pure 12 (.act 13 (.cut (.act 14 .done)))) 13 (.act 11 (.pure 12 (.cut (.act 14 .done)))))))))))))))) No fP Te hm fun w hw ar hh=>?_
 have hm:=ar
 refine au 11 ?_
 refine QN ?_ ?_
 ·
  refine ca rfl rfl rfl (Yc q cq ps _ (hq.Jj hm.to) (fun s hs=>(iC s hs).Jj hm.to) hl (by rw [kq]; omega)) fun v w hR=>?_
  obtain ⟨aK,dE,aj,aI,aF,rfl,ah,ae⟩:=hR
  refine ⟨hh.ext ae.to,?_⟩
  replace hh:=hh.ext ae.to
  replace hm:=hm.Jt ae
  rw [kq] at ah
  obtain rfl:dE=BB.length:=ah.J0
  refine au 1 ?_
  refine al hm hh fun m1 w c5 hm hh=>?_
  refine au 1 ?_
  refine st hm 0 fun w hm=>?_
  refine au 3 ?_
  cases hr:Pl.bt (Pl.aW S k cu of BB)
  ·
   refine au 2 ?_
   refine cT rfl rfl rfl (um (Pl.aW S k cu of BB) aK aj _ (ah.rd hm 1 rfl) vS cO hr) fun v w hR=>?_
   obtain ⟨⟨q_,c_,rfl⟩,hE⟩:=hR
   replace hm:=hm.ext hE
   refine au 9 ?_
   refine dw [0,3,6,9,12,15,18,21,24,27,30,33,36] hm fun w hw ar hh hm=>?_
   refine au 1 ?_
   refine Ja rfl rfl (JA (c:=true) (XD rfl rfl) Tb)<|au 22 ?_
   exact ⟨by rw [show (Pl.aP D f N b S (Pl.aW S k cu of BB))=(2,D,S) from LH (fun h9=>by rw [hr] at h9; cases h9.1)],[_,_],Z,by rw [show (Pl.aP D f N b S (Pl.aW S k cu of BB))=(2,D,S) from LH (fun h9=>by rw [hr] at h9; cases h9.1)]; exact ⟨ym,yn,An,Ao,rfl,fJ⟩,by rw [show (Pl.aP D f N b S (Pl.aW S k cu of BB))=(2,D,S) from LH (fun h9=>by rw [hr] at h9; cases h9.1)]; exact hz,(hm.Zp hZ).right⟩
  ·
   refine au 2 ?_
   refine cT rfl rfl rfl (uk (Pl.aW S k cu of BB) aK aj _ (ah.rd hm 1 rfl) vS cO hr) fun v w hR=>?_
   obtain ⟨om,cC,r6,jT,rfl,df,ae⟩:=hR
   have Ai:jT.real=true→_:=fun hr=>(ae.fresh _ Lo hr).resolve_left id
   replace hm:=hm.Jt ae
   refine au 9 ?_
   refine dw [0,3,6,9,12,15,18,21,24,27,30,33,36] hm fun w hw ar hh hm=>?_
   refine au 1 ?_
   refine Ja rfl rfl (JA (c:=false) (XD rfl rfl) Tb)<|au 13 ?_
   refine cd (fun ao=>?_) fun ao=>?_
   ·
    refine au 8 ?_
    exact ⟨by rw [show (Pl.aP D f N b S (Pl.aW S k cu of BB))=(2,D,S) from LH (fun h9=>by have h8:(BB.length:Int)≤b:=h9.2; simp only [dT] at ao; omega)],[_,_],Z,by rw [show (Pl.aP D f N b S (Pl.aW S k cu of BB))=(2,D,S) from LH (fun h9=>by have h8:(BB.length:Int)≤b:=h9.2; simp only [dT] at ao; omega)]; exact ⟨ym,yn,An,Ao,rfl,fJ⟩,by rw [show (Pl.aP D f N b S (Pl.aW S k cu of BB))=(2,D,S) from LH (fun h9=>by have h8:(BB.length:Int)≤b:=h9.2; simp only [dT] at ao; omega)]; exact hz,(hm.Zp hZ).right⟩
   ·
    simp only [dF] at ao
    have dO:(Pl.aP D f N b S (Pl.aW S k cu of BB))=Pl.qO D f N S (Pl.aW S k cu of BB):=LI ⟨hr,by show (BB.length:Int)≤b; omega⟩
    have nk:=Pl.VC (Pl.aW S k cu of BB)
    have UN:(Pl.aC (Pl.aW S k cu of BB)).length=44+BB.length:=nk
    have bM:Pl.eF D (((Pl.aY D f N (Pl.Jo S)):Nat):Int) ((Pl.aC (Pl.aW S k cu of BB)).length:Int)=true:=Pl.SA aq h2 (Pl.Xv S) (by have h9:=b7.2.2.2.1; omega)
    replace hm:=hm.Zp hZ
    refine au 4 ?_
    refine JS (.pure 0 (.pure 1 (.pure 2 (.pure 3 (.pure 4 (.pure 5 (.pure 6 (.pure 7 (.pure 8 (.pure 9 (.pure 10 (.pure 11 (.pure 12 (.pure 13 (.pure 14 (.pure 17 (.act2 15 (.pure 16 (.act 18 (.cut (.act 19 (.pure 20 .done))))) 18 (.act 15 (.pure 16 (.cut (.act 19 (.pure 20 .done)))))))))))))))))))))) No fP Te hm fun w hw ar hh=>?_
    have hm:=ar
    refine au 13 ?_
    refine Ja rfl rfl (sm rfl rfl Ta rfl)<|Ja rfl rfl (JX rfl is55 it3 sV)<|au 1 ?_
    refine QN ?_ ?_
    ·
     refine cB rfl rfl rfl (gW D m Z _ (Jr.right (A:=[_,_,_,_,_]) hm.Jz) hz f N b hb hN (Pl.Jo S) cR) hm hh fun w hm hh=>Ja rfl rfl (QF rfl fv32_0 rfl)<|Jb (l:=[_]) rfl rfl sl88.h z22.h rfl rfl rfl rfl rfl rfl rfl hm hh fun m2 w bo hm hh=>au 1 ?_
     refine cT rfl rfl rfl (gV D m Z (Pl.aY D f N (Pl.Jo S)) _ 1 [⟨om,cC,(Pl.aC (Pl.aW S k cu of BB))⟩] (Pl.aC (Pl.aW S k cu of BB)) _ (Jr.right (A:=[_,_,_,_,_,_]) hm.Jz) hz bM (Rd.JL (hm.get (k:=0) rfl)) (fun s hs=>by rw [Lf.1 hs]; exact df.rd hm 1 rfl) Tc Tc (by rw [UN]; omega) bL) fun v w hR=>?_
     obtain ⟨rfl,Z2,da,ae⟩:=hR
     replace hm:=Mem.JQ (A:=[_,_,_,_,_,_]) hm ae
     have yh:=(Pl.Zu (Pl.aY D f N (Pl.Jo S)) (Pl.aC (Pl.aW S k cu of BB)) (Pl.sN D.sz (Pl.aY D f N (Pl.Jo S)) (Pl.aC (Pl.aW S k cu of BB)).length) (Pl.sF D.sz (Pl.aY D f N (Pl.Jo S)) (Pl.aC (Pl.aW S k cu of BB)).length) D aq (by have:=Pl.XZ (sz:=D.sz) (a:=(Pl.aY D f N (Pl.Jo S))) (b:=(Pl.aC (Pl.aW S k cu of BB)).length) o1 (show _≤D.cnt*D.sz by have:=(Pl.JJ.1 bM).2.2.2; omega) o3; omega)).2.2.2
     have kz:=Pl.XZ (sz:=D.sz) (a:=(Pl.aY D f N (Pl.Jo S))) (b:=(Pl.aC (Pl.aW S k cu of BB)).length) o1 (show _≤D.cnt*D.sz by have:=(Pl.JJ.1 bM).2.2.2; omega) o3
     obtain ⟨⟨e1,D1⟩,hW⟩:∃ x:Int×Pl.Dv,(Pl.cg (Pl.aY D f N (Pl.Jo S)) (Pl.aC (Pl.aW S k cu of BB)) (Pl.sN D.sz (Pl.aY D f N (Pl.Jo S)) (Pl.aC (Pl.aW S k cu of BB)).length) (Pl.sF D.sz (Pl.aY D f N (Pl.Jo S)) (Pl.aC (Pl.aW S k cu of BB)).length) D)=x:=⟨_,rfl⟩
     rw [hW] at da yh ⊢
     have NS:Pl.nN D f N S (Pl.aW S k cu of BB)=(e1,D1):=hW
     have cX:Pl.qO D f N S (Pl.aW S k cu of BB)=if e1≠0 then (e1,D1,S) else if Pl.QS D1≠0 then (Pl.QS D1,Pl.fe D1,S) else (0,Pl.fe D1,⟨IntKind.u64.wrap (S.nx+1),true,(Pl.aW S k cu of BB)⟩):=by unfold Pl.qO; rw [NS]
     refine au 9 ?_
     refine cd (fun aD=>?_) fun aD=>?_
     ·
      simp only [dT] at aD
      rw [LI aD] at cX
      refine au 9 ?_
      exact ⟨by rw [dO,cX],[_,_],Z2,by rw [dO,cX]; exact ⟨ym,yn,An,Ao,rfl,fJ⟩,by rw [dO,cX]; exact da,(hm.Jp [4,5] 6 rfl)⟩
     ·
      simp only [dF] at aD
      rw [LH aD] at cX
      refine au 10 ?_
      refine cT rfl rfl rfl (gU D1 m Z2 _ (Jr.right (A:=[_,_,_,_,_,_]) hm.Jz) da (by simp only at yh; omega)) fun v w hR=>?_
      obtain ⟨rfl,Z3,r7,ae⟩:=hR
      replace hm:=Mem.JQ (A:=[_,_,_,_,_,_]) hm ae
      refine au 9 ?_
      refine cd (fun bg=>?_) fun bg=>?_
      ·
       simp only [dT] at bg
       rw [LI bg] at cX
       refine au 9 ?_
       exact ⟨by rw [dO,cX],[_,_],Z3,by rw [dO,cX]; exact ⟨ym,yn,An,Ao,rfl,fJ⟩,by rw [dO,cX]; exact r7,(hm.Jp [4,5] 6 rfl)⟩
      ·
       simp only [dF] at bg
       rw [LH bg] at cX
       refine au 9 ?_
       refine st hm 4 fun w hm=>?_
       refine au 2 ?_
       refine st hm 4 fun w hm=>?_
       refine au 8 ?_
       refine Ja rfl rfl (J5 rfl rfl rfl)<|au 2 ?_
       refine st hm 4 fun w hm=>?_
       refine au 9 ?_
       exact ⟨by rw [dO,cX],[_,_],Z3,by rw [dO,cX]; exact ⟨aK,aj,aI,aF,rfl,ah⟩,by rw [dO,cX]; exact r7,(hm.Jp [4,3] 6 rfl)⟩
    ·
     refine Jb (l:=[_]) rfl rfl sl88.h z22.h rfl rfl rfl rfl rfl rfl rfl hm hh fun m2 w bo hm hh=>cB rfl rfl rfl (gW D m Z _ (Jr.right (A:=[_,_,_,_,_,_]) hm.Jz) hz f N b hb hN (Pl.Jo S) cR) hm hh fun w hm hh=>Ja rfl rfl (QF rfl fv32_0 rfl)<|au 1 ?_
     refine cT rfl rfl rfl (gV D m Z (Pl.aY D f N (Pl.Jo S)) _ 1 [⟨om,cC,(Pl.aC (Pl.aW S k cu of BB))⟩] (Pl.aC (Pl.aW S k cu of BB)) _ (Jr.right (A:=[_,_,_,_,_,_]) hm.Jz) hz bM (Rd.JL (hm.get (k:=0) rfl)) (fun s hs=>by rw [Lf.1 hs]; exact df.rd hm 1 rfl) Tc Tc (by rw [UN]; omega) bL) fun v w hR=>?_
     obtain ⟨rfl,Z2,da,ae⟩:=hR
     replace hm:=Mem.JQ (A:=[_,_,_,_,_,_]) hm ae
     have yh:=(Pl.Zu (Pl.aY D f N (Pl.Jo S)) (Pl.aC (Pl.aW S k cu of BB)) (Pl.sN D.sz (Pl.aY D f N (Pl.Jo S)) (Pl.aC (Pl.aW S k cu of BB)).length) (Pl.sF D.sz (Pl.aY D f N (Pl.Jo S)) (Pl.aC (Pl.aW S k cu of BB)).length) D aq (by have:=Pl.XZ (sz:=D.sz) (a:=(Pl.aY D f N (Pl.Jo S))) (b:=(Pl.aC (Pl.aW S k cu of BB)).length) o1 (show _≤D.cnt*D.sz by have:=(Pl.JJ.1 bM).2.2.2; omega) o3; omega)).2.2.2
     have kz:=Pl.XZ (sz:=D.sz) (a:=(Pl.aY D f N (Pl.Jo S))) (b:=(Pl.aC (Pl.aW S k cu of BB)).length) o1 (show _≤D.cnt*D.sz by have:=(Pl.JJ.1 bM).2.2.2; omega) o3
     obtain ⟨⟨e1,D1⟩,hW⟩:∃ x:Int×Pl.Dv,(Pl.cg (Pl.aY D f N (Pl.Jo S)) (Pl.aC (Pl.aW S k cu of BB)) (Pl.sN D.sz (Pl.aY D f N (Pl.Jo S)) (Pl.aC (Pl.aW S k cu of BB)).length) (Pl.sF D.sz (Pl.aY D f N (Pl.Jo S)) (Pl.aC (Pl.aW S k cu of BB)).length) D)=x:=⟨_,rfl⟩
     rw [hW] at da yh ⊢
     have NS:Pl.nN D f N S (Pl.aW S k cu of BB)=(e1,D1):=hW
     have cX:Pl.qO D f N S (Pl.aW S k cu of BB)=if e1≠0 then (e1,D1,S) else if Pl.QS D1≠0 then (Pl.QS D1,Pl.fe D1,S) else (0,Pl.fe D1,⟨IntKind.u64.wrap (S.nx+1),true,(Pl.aW S k cu of BB)⟩):=by unfold Pl.qO; rw [NS]
     refine au 9 ?_
     refine cd (fun aD=>?_) fun aD=>?_
     ·
      simp only [dT] at aD
      rw [LI aD] at cX
      refine au 9 ?_
      exact ⟨by rw [dO,cX],[_,_],Z2,by rw [dO,cX]; exact ⟨ym,yn,An,Ao,rfl,fJ⟩,by rw [dO,cX]; exact da,(hm.Jp [4,5] 6 rfl)⟩
     ·
      simp only [dF] at aD
      rw [LH aD] at cX
      refine au 10 ?_
      refine cT rfl rfl rfl (gU D1 m Z2 _ (Jr.right (A:=[_,_,_,_,_,_]) hm.Jz) da (by simp only at yh; omega)) fun v w hR=>?_
      obtain ⟨rfl,Z3,r7,ae⟩:=hR
      replace hm:=Mem.JQ (A:=[_,_,_,_,_,_]) hm ae
      refine au 9 ?_
      refine cd (fun bg=>?_) fun bg=>?_
      ·
       simp only [dT] at bg
       rw [LI bg] at cX
       refine au 9 ?_
       exact ⟨by rw [dO,cX],[_,_],Z3,by rw [dO,cX]; exact ⟨ym,yn,An,Ao,rfl,fJ⟩,by rw [dO,cX]; exact r7,(hm.Jp [4,5] 6 rfl)⟩
      ·
       simp only [dF] at bg
       rw [LH bg] at cX
       refine au 9 ?_
       refine st hm 4 fun w hm=>?_
       refine au 2 ?_
       refine st hm 4 fun w hm=>?_
       refine au 8 ?_
       refine Ja rfl rfl (J5 rfl rfl rfl)<|au 2 ?_
       refine st hm 4 fun w hm=>?_
       refine au 9 ?_
       exact ⟨by rw [dO,cX],[_,_],Z3,by rw [dO,cX]; exact ⟨aK,aj,aI,aF,rfl,ah⟩,by rw [dO,cX]; exact r7,(hm.Jp [4,3] 6 rfl)⟩
 ·
  refine al hm hh fun m1 w c5 hm hh=>?_
  refine ca rfl rfl rfl (Yc q cq ps _ (hq.Jj hm.to) (fun s hs=>(iC s hs).Jj hm.to) hl (by rw [kq]; omega)) fun v w hR=>?_
  obtain ⟨aK,dE,aj,aI,aF,rfl,ah,ae⟩:=hR
  refine ⟨hh.ext ae.to,?_⟩
  replace hh:=hh.ext ae.to
  replace hm:=hm.Jt ae
  rw [kq] at ah
  obtain rfl:dE=BB.length:=ah.J0
  refine au 2 ?_
  refine st hm 1 fun w hm=>?_
  refine au 3 ?_
  cases hr:Pl.bt (Pl.aW S k cu of BB)
  ·
   refine au 2 ?_
   refine cT rfl rfl rfl (um (Pl.aW S k cu of BB) aK aj _ (ah.rd hm 0 rfl) vS cO hr) fun v w hR=>?_
   obtain ⟨⟨q_,c_,rfl⟩,hE⟩:=hR
   replace hm:=hm.ext hE
   refine au 9 ?_
   refine dw [0,3,6,9,12,15,18,21,24,27,30,33,36] hm fun w hw ar hh hm=>?_
   refine au 1 ?_
   refine Ja rfl rfl (JA (c:=true) (XD rfl rfl) Tb)<|au 22 ?_
   exact ⟨by rw [show (Pl.aP D f N b S (Pl.aW S k cu of BB))=(2,D,S) from LH (fun h9=>by rw [hr] at h9; cases h9.1)],[_,_],Z,by rw [show (Pl.aP D f N b S (Pl.aW S k cu of BB))=(2,D,S) from LH (fun h9=>by rw [hr] at h9; cases h9.1)]; exact ⟨ym,yn,An,Ao,rfl,fJ⟩,by rw [show (Pl.aP D f N b S (Pl.aW S k cu of BB))=(2,D,S) from LH (fun h9=>by rw [hr] at h9; cases h9.1)]; exact hz,(hm.Zp hZ).right⟩
  ·
   refine au 2 ?_
   refine cT rfl rfl rfl (uk (Pl.aW S k cu of BB) aK aj _ (ah.rd hm 0 rfl) vS cO hr) fun v w hR=>?_
   obtain ⟨om,cC,r6,jT,rfl,df,ae⟩:=hR
   have Ai:jT.real=true→_:=fun hr=>(ae.fresh _ Lo hr).resolve_left id
   replace hm:=hm.Jt ae
   refine au 9 ?_
   refine dw [0,3,6,9,12,15,18,21,24,27,30,33,36] hm fun w hw ar hh hm=>?_
   refine au 1 ?_
   refine Ja rfl rfl (JA (c:=false) (XD rfl rfl) Tb)<|au 13 ?_
   refine cd (fun ao=>?_) fun ao=>?_
   ·
    refine au 8 ?_
    exact ⟨by rw [show (Pl.aP D f N b S (Pl.aW S k cu of BB))=(2,D,S) from LH (fun h9=>by have h8:(BB.length:Int)≤b:=h9.2; simp only [dT] at ao; omega)],[_,_],Z,by rw [show (Pl.aP D f N b S (Pl.aW S k cu of BB))=(2,D,S) from LH (fun h9=>by have h8:(BB.length:Int)≤b:=h9.2; simp only [dT] at ao; omega)]; exact ⟨ym,yn,An,Ao,rfl,fJ⟩,by rw [show (Pl.aP D f N b S (Pl.aW S k cu of BB))=(2,D,S) from LH (fun h9=>by have h8:(BB.length:Int)≤b:=h9.2; simp only [dT] at ao; omega)]; exact hz,(hm.Zp hZ).right⟩
   ·
    simp only [dF] at ao
    have dO:(Pl.aP D f N b S (Pl.aW S k cu of BB))=Pl.qO D f N S (Pl.aW S k cu of BB):=LI ⟨hr,by show (BB.length:Int)≤b; omega⟩
    have nk:=Pl.VC (Pl.aW S k cu of BB)
    have UN:(Pl.aC (Pl.aW S k cu of BB)).length=44+BB.length:=nk
    have bM:Pl.eF D (((Pl.aY D f N (Pl.Jo S)):Nat):Int) ((Pl.aC (Pl.aW S k cu of BB)).length:Int)=true:=Pl.SA aq h2 (Pl.Xv S) (by have h9:=b7.2.2.2.1; omega)
    replace hm:=hm.Zp hZ
    refine au 4 ?_
    refine JS (.pure 0 (.pure 1 (.pure 2 (.pure 3 (.pure 4 (.pure 5 (.pure 6 (.pure 7 (.pure 8 (.pure 9 (.pure 10 (.pure 11 (.pure 12 (.pure 13 (.pure 14 (.pure 17 (.act2 15 (.pure 16 (.act 18 (.cut (.act 19 (.pure 20 .done))))) 18 (.act 15 (.pure 16 (.cut (.act 19 (.pure 20 .done)))))))))))))))))))))) No fP Te hm fun w hw ar hh=>?_
    have hm:=ar
    refine au 13 ?_
    refine Ja rfl rfl (sm rfl rfl Ta rfl)<|Ja rfl rfl (JX rfl is55 it3 sV)<|au 1 ?_
    refine QN ?_ ?_
    ·
     refine cB rfl rfl rfl (gW D m Z _ (Jr.right (A:=[_,_,_,_,_]) hm.Jz) hz f N b hb hN (Pl.Jo S) cR) hm hh fun w hm hh=>Ja rfl rfl (QF rfl fv32_0 rfl)<|Jb (l:=[_]) rfl rfl sl88.h z22.h rfl rfl rfl rfl rfl rfl rfl hm hh fun m2 w bo hm hh=>au 1 ?_
     refine cT rfl rfl rfl (gV D m Z (Pl.aY D f N (Pl.Jo S)) _ 1 [⟨om,cC,(Pl.aC (Pl.aW S k cu of BB))⟩] (Pl.aC (Pl.aW S k cu of BB)) _ (Jr.right (A:=[_,_,_,_,_,_]) hm.Jz) hz bM (Rd.JL (hm.get (k:=0) rfl)) (fun s hs=>by rw [Lf.1 hs]; exact df.rd hm 1 rfl) Tc Tc (by rw [UN]; omega) bL) fun v w hR=>?_
     obtain ⟨rfl,Z2,da,ae⟩:=hR
     replace hm:=Mem.JQ (A:=[_,_,_,_,_,_]) hm ae
     have yh:=(Pl.Zu (Pl.aY D f N (Pl.Jo S)) (Pl.aC (Pl.aW S k cu of BB)) (Pl.sN D.sz (Pl.aY D f N (Pl.Jo S)) (Pl.aC (Pl.aW S k cu of BB)).length) (Pl.sF D.sz (Pl.aY D f N (Pl.Jo S)) (Pl.aC (Pl.aW S k cu of BB)).length) D aq (by have:=Pl.XZ (sz:=D.sz) (a:=(Pl.aY D f N (Pl.Jo S))) (b:=(Pl.aC (Pl.aW S k cu of BB)).length) o1 (show _≤D.cnt*D.sz by have:=(Pl.JJ.1 bM).2.2.2; omega) o3; omega)).2.2.2
     have kz:=Pl.XZ (sz:=D.sz) (a:=(Pl.aY D f N (Pl.Jo S))) (b:=(Pl.aC (Pl.aW S k cu of BB)).length) o1 (show _≤D.cnt*D.sz by have:=(Pl.JJ.1 bM).2.2.2; omega) o3
     obtain ⟨⟨e1,D1⟩,hW⟩:∃ x:Int×Pl.Dv,(Pl.cg (Pl.aY D f N (Pl.Jo S)) (Pl.aC (Pl.aW S k cu of BB)) (Pl.sN D.sz (Pl.aY D f N (Pl.Jo S)) (Pl.aC (Pl.aW S k cu of BB)).length) (Pl.sF D.sz (Pl.aY D f N (Pl.Jo S)) (Pl.aC (Pl.aW S k cu of BB)).length) D)=x:=⟨_,rfl⟩
     rw [hW] at da yh ⊢
     have NS:Pl.nN D f N S (Pl.aW S k cu of BB)=(e1,D1):=hW
     have cX:Pl.qO D f N S (Pl.aW S k cu of BB)=if e1≠0 then (e1,D1,S) else if Pl.QS D1≠0 then (Pl.QS D1,Pl.fe D1,S) else (0,Pl.fe D1,⟨IntKind.u64.wrap (S.nx+1),true,(Pl.aW S k cu of BB)⟩):=by unfold Pl.qO; rw [NS]
     refine au 9 ?_
     refine cd (fun aD=>?_) fun aD=>?_
     ·
      simp only [dT] at aD
      rw [LI aD] at cX
      refine au 9 ?_
      exact ⟨by rw [dO,cX],[_,_],Z2,by rw [dO,cX]; exact ⟨ym,yn,An,Ao,rfl,fJ⟩,by rw [dO,cX]; exact da,(hm.Jp [4,5] 6 rfl)⟩
     ·
      simp only [dF] at aD
      rw [LH aD] at cX
      refine au 10 ?_
      refine cT rfl rfl rfl (gU D1 m Z2 _ (Jr.right (A:=[_,_,_,_,_,_]) hm.Jz) da (by simp only at yh; omega)) fun v w hR=>?_
      obtain ⟨rfl,Z3,r7,ae⟩:=hR
      replace hm:=Mem.JQ (A:=[_,_,_,_,_,_]) hm ae
      refine au 9 ?_
      refine cd (fun bg=>?_) fun bg=>?_
      ·
       simp only [dT] at bg
       rw [LI bg] at cX
       refine au 9 ?_
       exact ⟨by rw [dO,cX],[_,_],Z3,by rw [dO,cX]; exact ⟨ym,yn,An,Ao,rfl,fJ⟩,by rw [dO,cX]; exact r7,(hm.Jp [4,5] 6 rfl)⟩
      ·
       simp only [dF] at bg
       rw [LH bg] at cX
       refine au 9 ?_
       refine st hm 4 fun w hm=>?_
       refine au 2 ?_
       refine st hm 4 fun w hm=>?_
       refine au 8 ?_
       refine Ja rfl rfl (J5 rfl rfl rfl)<|au 2 ?_
       refine st hm 4 fun w hm=>?_
       refine au 9 ?_
       exact ⟨by rw [dO,cX],[_,_],Z3,by rw [dO,cX]; exact ⟨aK,aj,aI,aF,rfl,ah⟩,by rw [dO,cX]; exact r7,(hm.Jp [4,2] 6 rfl)⟩
    ·
     refine Jb (l:=[_]) rfl rfl sl88.h z22.h rfl rfl rfl rfl rfl rfl rfl hm hh fun m2 w bo hm hh=>cB rfl rfl rfl (gW D m Z _ (Jr.right (A:=[_,_,_,_,_,_]) hm.Jz) hz f N b hb hN (Pl.Jo S) cR) hm hh fun w hm hh=>Ja rfl rfl (QF rfl fv32_0 rfl)<|au 1 ?_
     refine cT rfl rfl rfl (gV D m Z (Pl.aY D f N (Pl.Jo S)) _ 1 [⟨om,cC,(Pl.aC (Pl.aW S k cu of BB))⟩] (Pl.aC (Pl.aW S k cu of BB)) _ (Jr.right (A:=[_,_,_,_,_,_]) hm.Jz) hz bM (Rd.JL (hm.get (k:=0) rfl)) (fun s hs=>by rw [Lf.1 hs]; exact df.rd hm 1 rfl) Tc Tc (by rw [UN]; omega) bL) fun v w hR=>?_
     obtain ⟨rfl,Z2,da,ae⟩:=hR
     replace hm:=Mem.JQ (A:=[_,_,_,_,_,_]) hm ae
     have yh:=(Pl.Zu (Pl.aY D f N (Pl.Jo S)) (Pl.aC (Pl.aW S k cu of BB)) (Pl.sN D.sz (Pl.aY D f N (Pl.Jo S)) (Pl.aC (Pl.aW S k cu of BB)).length) (Pl.sF D.sz (Pl.aY D f N (Pl.Jo S)) (Pl.aC (Pl.aW S k cu of BB)).length) D aq (by have:=Pl.XZ (sz:=D.sz) (a:=(Pl.aY D f N (Pl.Jo S))) (b:=(Pl.aC (Pl.aW S k cu of BB)).length) o1 (show _≤D.cnt*D.sz by have:=(Pl.JJ.1 bM).2.2.2; omega) o3; omega)).2.2.2
     have kz:=Pl.XZ (sz:=D.sz) (a:=(Pl.aY D f N (Pl.Jo S))) (b:=(Pl.aC (Pl.aW S k cu of BB)).length) o1 (show _≤D.cnt*D.sz by have:=(Pl.JJ.1 bM).2.2.2; omega) o3
     obtain ⟨⟨e1,D1⟩,hW⟩:∃ x:Int×Pl.Dv,(Pl.cg (Pl.aY D f N (Pl.Jo S)) (Pl.aC (Pl.aW S k cu of BB)) (Pl.sN D.sz (Pl.aY D f N (Pl.Jo S)) (Pl.aC (Pl.aW S k cu of BB)).length) (Pl.sF D.sz (Pl.aY D f N (Pl.Jo S)) (Pl.aC (Pl.aW S k cu of BB)).length) D)=x:=⟨_,rfl⟩
     rw [hW] at da yh ⊢
     have NS:Pl.nN D f N S (Pl.aW S k cu of BB)=(e1,D1):=hW
     have cX:Pl.qO D f N S (Pl.aW S k cu of BB)=if e1≠0 then (e1,D1,S) else if Pl.QS D1≠0 then (Pl.QS D1,Pl.fe D1,S) else (0,Pl.fe D1,⟨IntKind.u64.wrap (S.nx+1),true,(Pl.aW S k cu of BB)⟩):=by unfold Pl.qO; rw [NS]
     refine au 9 ?_
     refine cd (fun aD=>?_) fun aD=>?_
     ·
      simp only [dT] at aD
      rw [LI aD] at cX
      refine au 9 ?_
      exact ⟨by rw [dO,cX],[_,_],Z2,by rw [dO,cX]; exact ⟨ym,yn,An,Ao,rfl,fJ⟩,by rw [dO,cX]; exact da,(hm.Jp [4,5] 6 rfl)⟩
     ·
      simp only [dF] at aD
      rw [LH aD] at cX
      refine au 10 ?_
      refine cT rfl rfl rfl (gU D1 m Z2 _ (Jr.right (A:=[_,_,_,_,_,_]) hm.Jz) da (by simp only at yh; omega)) fun v w hR=>?_
      obtain ⟨rfl,Z3,r7,ae⟩:=hR
      replace hm:=Mem.JQ (A:=[_,_,_,_,_,_]) hm ae
      refine au 9 ?_
      refine cd (fun bg=>?_) fun bg=>?_
      ·
       simp only [dT] at bg
       rw [LI bg] at cX
       refine au 9 ?_
       exact ⟨by rw [dO,cX],[_,_],Z3,by rw [dO,cX]; exact ⟨ym,yn,An,Ao,rfl,fJ⟩,by rw [dO,cX]; exact r7,(hm.Jp [4,5] 6 rfl)⟩
      ·
       simp only [dF] at bg
       rw [LH bg] at cX
       refine au 9 ?_
       refine st hm 4 fun w hm=>?_
       refine au 2 ?_
       refine st hm 4 fun w hm=>?_
       refine au 8 ?_
       refine Ja rfl rfl (J5 rfl rfl rfl)<|au 2 ?_
       refine st hm 4 fun w hm=>?_
       refine au 9 ?_
       exact ⟨by rw [dO,cX],[_,_],Z3,by rw [dO,cX]; exact ⟨aK,aj,aI,aF,rfl,ah⟩,by rw [dO,cX]; exact r7,(hm.Jp [4,2] 6 rfl)⟩
def Pl.dG(S:Pl.Jn):Pl.Rc:=if S.has=true then S.la else Pl.Fz
theorem DH(m f:Nat)(b:Int)(k:Int)(S:Pl.Jn)(j:Nat)(Zj:Tf)(w0:World)(hO:Jr w0 Zj)(hj:JZ 271 5 m (f:Int) b k S j Zj)(hl:S.la.bs.length≤140737488355328):C Tryz.prog 147 [.pointer (some ⟨j,0,none⟩)] w0 fun v w'=>∃ q c g bb,v=.tuple ⟨[.agg ⟨Bk (Pl.dG S) q (Pl.dG S).bs.length c⟩,.bool S.has]⟩∧Acc 5 1 q (Pl.dG S).bs.length c ((Pl.dG S).bs.flatMap Jk) g bb∧Mem w0 w' No [(g,bb)]:=by
 obtain ⟨ym,yn,An,Ao,rfl,fJ⟩:=hj
 have hJ:=hO.get (k:=0) rfl
 have hx:=fJ.Fy hO Tc
 refine aH Tryz.func147 fun κ _ Je Jc hm=>?_
 refine au 2 ?_
 refine aT hm fun m1 w hm=>?_
 refine au 17 ?_
 refine cd (fun ai=>?_) fun ai=>?_
 ·
  simp only [bE] at ai
  have NT:Pl.dG S=Pl.Fz:=by unfold Pl.dG; rw [ai]; rfl
  refine au 3 ?_
  refine st hm 0 fun w hm=>?_
  refine au 6 ?_
  exact ⟨none,0,0,.gap,by rw [NT,ai]; rfl,by rw [NT]; exact .nil _ _ _ _,(hm.drop (List.nil_sublist _)).JP⟩
 ·
  simp only [bF] at ai
  have NT:Pl.dG S=S.la:=by unfold Pl.dG; rw [LI ai]
  refine au 7 ?_
  refine Ja rfl rfl (Jm (s:=5) (vs:=[_,_,_,_,_]) rfl ag225.h (Qo ((hm.to.same _ (Lb.1 hJ).1 id).trans hJ)) rfl)<|aT hm fun m2 w hm=>?_
  refine st hm 0 fun w hm=>?_
  refine au 6 ?_
  refine cT rfl rfl rfl (V0 ym yn S.la.bs _ (hx.Jj hm.to) Ta) fun v w hR=>?_
  obtain ⟨om,cC,r6,jT,rfl,df,ae⟩:=hR
  have Ai:jT.real=true→_:=fun hr=>(ae.fresh _ Lo hr).resolve_left id
  replace hm:=hm.Jt ae
  refine au 1 ?_
  refine st hm 1 fun w hm=>?_
  refine au 5 ?_
  refine st hm 2 fun w hm=>?_
  refine au 5 ?_
  exact ⟨om,cC,r6,jT,by rw [NT,ai]; rfl,by rw [NT]; exact df,(hm.pick [0] rfl)⟩
theorem NU(a c:Nat)(q:Tg)(cq:Nat)(ps:List SB)(w0:World)(hq:Rd w0 q (ps.flatMap encS))(iC:∀ s∈ps,Rd w0 s.p (s.bs.flatMap Jk))(hl:ps.length≤4611686018427387903)(hb:(ps.flatMap (·.bs)).length≤140737488355328)(BB:Th)(kq:ps.flatMap (·.bs)=BB)(hr:Pl.right a c BB.length=true):C Tryz.prog 46 [.int .i64 (a:Int),.int .i64 (c:Int),.slice q ps.length cq] w0 fun v w'=>∃ m Z,v=.pointer (some ⟨m,0,none⟩)∧JV 112 258 5 (Pl.jR a c BB) m Z∧Mem w0 w' No Z:=Un a c q cq ps w0 hq iC hl hb BB kq hr
theorem yp(D:Pl.Dv)(m:Nat)(Z:Tf)(w0:World)(hZ:Jr w0 Z)(hz:JV 112 258 5 D m Z)(x2 x3 fl x5 x6 k:Int)(hk:k≤(D.cnt:Int)):C Tryz.prog 47 [.agg ⟨[.int .i64 (D.sz:Int),.int .i64 x2,.int .i64 x3,.int .i64 fl,.int .i64 x5,.int .i64 x6,.int .i64 k]⟩,.pointer (some ⟨m,0,none⟩)] w0 fun v w'=>v=.int .i64 0∧Ext No w0 w':=by
 refine aH Tryz.func47 fun κ _ Je Jc hm=>?_
 refine au 2 ?_
 refine bT hm fun m1 w hm=>?_
 refine au 14 ?_
 refine dw [0,6,9,4,12,15] hm fun w hw ar hh hm=>?_
 refine au 3 ?_
 refine cB rfl rfl rfl (Xt D m Z _ (hZ.ext hm.to) hz) hm hh fun w hm hh=>Ja rfl rfl (JA (c:=false) (XD rfl rfl) (LN (fun h=>h rfl)))<|au 5 ?_
 refine dw [0,6,9,4,12,15] hm fun w hw ar hh hm=>?_
 refine au 3 ?_
 refine cB rfl rfl rfl (X6 D m Z _ (hZ.ext hm.to) hz) hm hh fun w hm hh=>Ja rfl rfl (JA (c:=false) (VO rfl rfl) (LN Ta))<|au 14 ?_
 exact ⟨rfl,hm.to⟩
theorem Hs(a c:Nat)(x2 x3 fl x5 x6 k x:Int)(q:Tg)(cq:Nat)(ps:List SB)(BB:Th)(w0:World)(hq:Rd w0 q (ps.flatMap encS))(iC:∀ s∈ps,Rd w0 s.p (s.bs.flatMap Jk))(hl:ps.length≤4611686018427387903)(kq:ps.flatMap (·.bs)=BB)(hb:BB.length≤140737488355328)(h0:0≤x)(bY:(BB.length:Int)≤fl)(Nl:k+x=(c:Int))(hr:Pl.right (a:Int) (c:Int) BB.length=true):C Tryz.prog 23 [.agg ⟨[.int .i64 (a:Int),.int .i64 x2,.int .i64 x3,.int .i64 fl,.int .i64 x5,.int .i64 x6,.int .i64 k]⟩,.int .i64 x,.slice q ps.length cq] w0 fun v w'=>∃ m Z,v=.tuple ⟨[.pointer (some ⟨m,0,none⟩),.int .i64 0]⟩∧JV 112 258 5 (Pl.jR a c BB) m Z∧Mem w0 w' No Z:=by
 obtain ⟨r1,r2,r3,r4⟩:=MO hr
 have jbj:a≠0:=by omega
 refine aH Tryz.func23 fun κ _ Je Jc hm=>?_
 refine au 2 ?_
 refine bT hm fun m1 w hm=>?_
 refine au 7 ?_
 refine cT rfl rfl rfl (Yc q cq ps _ (hq.Jj hm.to) (fun s hs=>(iC s hs).Jj hm.to) hl (by rw [kq]; exact hb)) fun v w hR=>?_
 obtain ⟨aK,dE,aj,aI,aF,rfl,ah,ae⟩:=hR
 have Kq:=ah.J0
 replace hm:=hm.Jt ae
 rw [kq] at ah Kq
 subst Kq
 refine au 7 ?_
 refine Ja rfl rfl (JA (c:=false) (VO rfl rfl) (LN Ta))<|au 6 ?_
 refine Ja rfl rfl (JA (c:=false) (XE rfl rfl) (LN Ta))<|au 13 ?_
 refine Ja rfl rfl (J5 rfl rfl ((LM IntKind.i64.wrap Nl).trans (Ql Ta Ta)))<|au 1 ?_
 refine Jb (l:=[_]) rfl rfl sl88.h z22.h rfl rfl rfl rfl rfl rfl rfl hm trivial fun m2 w bo hm hh=>cT rfl rfl rfl (NU a c _ 1 [⟨aK,aj,BB⟩] _ (Rd.JL (hm.get (k:=0) rfl)) (fun s9 eT=>by rw [Lf.1 eT]; exact ah.rd hm 1 rfl) Tc (by simp; omega) BB Tc hr) fun v w hR=>?_
 obtain ⟨m,Z,rfl,hz,ae⟩:=hR
 replace hm:=hm.XR ae
 refine au 13 ?_
 refine Ja rfl rfl (JA (c:=false) (RN rfl rfl fl34 rfl rfl) (by simp [jq,lB,jbj]))<|au 4 ?_
 refine Qf rfl rfl rfl rfl go47 (yp (Pl.jR a c BB) m Z _ (Jr.right (A:=[_,_,_]) hm.Jz) hz x2 x3 fl x5 x6 k (show k≤(c:Int) by omega)) fun v w hR=>?_
 obtain ⟨rfl,hE⟩:=hR
 refine ⟨trivial,?_⟩
 replace hm:=hm.ext hE
 refine Ja rfl rfl (JA (c:=false) (XD rfl rfl) Tb)<|au 15 ?_
 exact ⟨m,Z,rfl,hz,(hm.Jp [] 3 rfl)⟩
theorem NV(a b x:Int)(w0:World)(h:Pl.aA (a+b)):C Tryz.prog 56 [.agg ⟨[.int .i64 a,.int .i64 b]⟩,.int .i64 x] w0 fun v w'=>v=.bool (decide (a≤x)&&decide (x<a+b))∧Ext No w0 w':=by
 refine aH Tryz.func56 fun κ _ Je Jc hm=>?_
 refine au 2 ?_
 refine bT hm fun m1 w hm=>?_
 refine au 15 ?_
 refine JK rfl rfl rfl (fun hc=>(J5 (gx hc rfl) (gx hc rfl) (Ql Ta Ta)))<|au 7 ?_
 exact ⟨rfl,hm.to⟩
theorem NW(c:Pl.Cm)(p:Tg)(cap:Nat)(x:Int)(w0:World)(h:Pl.aA (c.to+Pl.aw c)):C Tryz.prog 38 [.agg ⟨fV c p c.bs.length cap⟩,.int .i64 x] w0 fun v w'=>v=.bool (Pl.hasB c x)∧Ext No w0 w':=by
 refine aH Tryz.func38 fun κ _ Je Jc hm=>?_
 refine au 2 ?_
 refine bT hm fun m1 w hm=>?_
 refine au 6 ?_
 refine cA rfl rfl rfl (Y6 _ _ _ _) hm fun w hm=>au 1 ?_
 refine cA rfl rfl rfl (NV c.to (Pl.aw c) x _ h) hm fun w hm=>au 5 ?_
 exact ⟨rfl,hm.to⟩
theorem DJ(oo nn:Int)(H:Nat→UInt8)(q:Tg)(cq:Nat)(cs:List aa)(w0:World)(hq:Rd w0 q (cs.flatMap JM))(eM:cs.length≤4611686018427387903):C Tryz.prog 30 [.agg ⟨aZ oo nn H q cs.length cq⟩] w0 fun v w'=>v=.bool (cs.all (fun c=>decide (c.d.bs.length≤300))&&decide (cs.length≤40))∧Ext No w0 w':=by
 refine aH Tryz.func30 fun κ _ Je Jc hm=>?_
 refine au 2 ?_
 refine bT hm fun m1 w hm=>?_
 refine au 10 ?_
 refine Jg (ι:=Nat) rfl (ks:=[1]) Tn (fun k=>[(3,.int .i64 k)]) (fun k w=>Mem w0 w No [(m1,.row 26 (aZ oo nn H q cs.length cq))]∧k≤cs.length∧∀ (j:Nat) c,j<k→cs[j]?=some c→decide (c.d.bs.length≤300)=true) (fun k=>cs.length-k) 0 (⟨(hm.pick [0] rfl),LL _,fun _ _ h=>absurd h (Nat.not_lt_zero _)⟩) Tm (fun k w hM=>?_)
 obtain ⟨hm,hk,cz⟩:=hM
 refine au 10 ?_
 refine cd (fun ai=>?_) fun ai=>?_
 ·
  simp only [dT] at ai
  obtain ⟨c,hi⟩:∃ y_,cs[k]?=some y_:=⟨_,La Ta⟩
  obtain ⟨qb,qo,rfl⟩:=hq.bS Jf Tb hi
  refine au 11 ?_
  refine Ja rfl rfl (Yr rfl sc22.h (hq.Jj hm.to).nt Jf hi rfl)<|au 4 ?_
  refine cd (fun ao=>?_) fun ao=>?_
  ·
   simp only [bA,bB,bC,bD,bE,bF,dT,dF] at ao
   refine au 12 ?_
   exact ⟨by rw [Pl.MC hi (LN Ta)]; rfl,hm.to⟩
  ·
   simp only [bA,bB,bC,bD,bE,bF,dT,dF] at ao
   refine au 8 ?_
   refine next (k+1) Ta ⟨(hm.pick [0] rfl),Ta,fun j d hj hd=>?_⟩ ⟨nx k,Tm⟩
   rcases L7 j k with h | h
   · exact cz j d h hd
   · obtain rfl:j=k:=by omega
     rw [hi] at hd; cases hd; exact LQ Ta
 ·
  simp only [dF] at ai
  have b8:k=cs.length:=by omega
  subst b8
  refine au 16 ?_
  exact ⟨by rw [Pl.jah cz,Bool.true_and,Bool.eq_iff_iff.2 (by simp only [dT]; omega:decide (cs.length≤40)=true↔decide ((cs.length:Int)≤40)=true)],hm.to⟩
theorem Aq(oo nn:Int)(H:Nat→UInt8)(q:Tg)(cq:Nat)(cs:List aa)(c:Pl.Cm)(p:Tg)(cap:Nat)(w0:World)(hk:Pl.vQ c)(hl:c.bs.length≤9223372036854775807):C Tryz.prog 84 [.agg ⟨aZ oo nn H q cs.length cq⟩,.agg ⟨fV c p c.bs.length cap⟩] w0 fun v w'=>v=.int .i64 (Pl.single oo nn c)∧Ext No w0 w':=by
 refine aH Tryz.func84 fun κ _ Je Jc hm=>?_
 refine au 2 ?_
 refine bT hm fun m1 w hm=>?_
 refine bT hm fun m2 w hm=>?_
 refine au 6 ?_
 refine cA rfl rfl rfl (gT c p cap _ hk hl) hm fun w hm=>au 10 ?_
 refine cd (fun ai=>?_) fun ai=>?_
 ·
  simp only [dT] at ai
  refine au 9 ?_
  exact ⟨by unfold Pl.single; rw [LI (by simpa using ai)],hm.to⟩
 ·
  simp only [dF,ne_eq,Decidable.not_not] at ai
  have b6:=Pl.Jl ai
  refine au 13 ?_
  refine JK rfl rfl rfl (fun hc=>(J5 (gx hc rfl) (gx hc rfl) (Ql Ta Ta)))<|au 6 ?_
  refine cd (fun ao=>?_) fun ao=>?_
  ·
   refine au 8 ?_
   exact ⟨by unfold Pl.single; rw [LH (by simpa using ai),LI (by simpa using ao)],hm.to⟩
  ·
   refine au 4 ?_
   refine dw [0,3,6,15,18,10,12,21] hm fun w hw ar hh hm=>?_
   refine au 5 ?_
   refine cB rfl rfl rfl (mX c p cap _) hm hh fun w hm hh=>au 4 ?_
   refine cd (fun aD=>?_) fun aD=>?_
   ·
    refine au 8 ?_
    exact ⟨by unfold Pl.single; rw [LH (by simpa using ai),LH (by simpa using ao),LI (by simpa using aD)],hm.to⟩
   ·
    refine au 9 ?_
    exact ⟨by unfold Pl.single; rw [LH (by simpa using ai),LH (by simpa using ao),LH (by simpa using aD)],hm.to⟩
theorem rm(oo nn:Int)(H:Nat→UInt8)(q:Tg)(cq:Nat)(cs:List aa)(x:Int)(w0:World)(hq:Rd w0 q (cs.flatMap JM))(eM:cs.length≤4611686018427387903)(hr:∀ c∈cs,Pl.aA (c.cm.to+Pl.aw c.cm)):C Tryz.prog 19 [.agg ⟨aZ oo nn H q cs.length cq⟩,.int .i64 x] w0 fun v w'=>v=.int .i64 (Pl.tF (cs.map aa.cm) x)∧Ext No w0 w':=by
 refine aH Tryz.func19 fun κ _ Je Jc hm=>?_
 refine au 2 ?_
 refine bT hm fun m1 w hm=>?_
 refine au 10 ?_
 refine Jg (ι:=Nat) rfl (ks:=[1,2]) Tn (fun k=>[(5,.int .i64 k)]) (fun k w=>Mem w0 w No [(m1,.row 26 (aZ oo nn H q cs.length cq))]∧k≤cs.length∧∀ (j:Nat) c,j<k→cs[j]?=some c→Pl.hasB c.cm x=false) (fun k=>cs.length-k) 0 (⟨(hm.pick [0] rfl),LL _,fun _ _ h=>absurd h (Nat.not_lt_zero _)⟩) Tm (fun k w hM=>?_)
 obtain ⟨hm,hk,cz⟩:=hM
 refine au 10 ?_
 refine cd (fun ai=>?_) fun ai=>?_
 ·
  simp only [dT] at ai
  obtain ⟨c,hi⟩:∃ y_,cs[k]?=some y_:=⟨_,La Ta⟩
  obtain ⟨qb,qo,rfl⟩:=hq.bS Jf Tb hi
  have ND:=hr c (Ld hi)
  refine au 10 ?_
  refine Ja rfl rfl (JU rfl ag60.h (hq.Jj hm.to).nt Jf hi)<|au 1 ?_
  refine cA rfl rfl rfl (NW c.cm c.d.p c.d.cap x _ ND) hm fun w hm=>au 2 ?_
  refine cd (fun ao=>?_) fun ao=>?_
  ·
   refine au 13 ?_
   exact ⟨by unfold Pl.tF; rw [Pl.X8 (iZ hi) ao (fun j y hj hy=>by obtain ⟨d,hd,rfl⟩:=tI hy; exact cz j d hj hd)],hm.to⟩
  ·
   refine au 8 ?_
   refine next (k+1) Ta ⟨(hm.pick [0] rfl),Ta,fun j d hj hd=>?_⟩ ⟨nx k,Tm⟩
   rcases L7 j k with h | h
   · exact cz j d h hd
   · obtain rfl:j=k:=by omega
     rw [hi] at hd; cases hd; exact ao
 ·
  simp only [dF] at ai
  have b8:k=cs.length:=by omega
  subst b8
  refine au 12 ?_
  exact ⟨by unfold Pl.tF; rw [Pl.YN (fun j y hj hy=>by obtain ⟨d,hd,rfl⟩:=tI hy; exact cz j d (by simpa using hj) hd)],hm.to⟩
theorem NX(oo nn:Int)(H:Nat→UInt8)(q:Tg)(cq:Nat)(cs:List aa)(w0:World)(hq:Rd w0 q (cs.flatMap JM))(eM:cs.length≤4611686018427387903)(hn:0≤nn)(hk:∀ c∈cs,fE w0 c)(jW:∀ c∈cs,Pl.single oo nn c.cm=0):C Tryz.prog 86 [.agg ⟨aZ oo nn H q cs.length cq⟩] w0 fun v w'=>(∃ x,v=.int .i64 x∧(x<0→∀ (j:Nat),j<cs.length+1→Pl.gO (cs.map aa.cm) j<nn→0≤Pl.tF (cs.map aa.cm) (Pl.gO (cs.map aa.cm) j))∧(0≤x→∃ y:Int,0≤y∧y<nn∧¬ 0≤Pl.tF (cs.map aa.cm) y))∧Ext No w0 w':=by
 have hr:∀ c∈cs,Pl.aA (c.cm.to+Pl.aw c.cm):=fun c hc=>by
  have:=Pl.Jl (Pl.Jw (jW c hc)).1
  simp only [Pl.aA]; omega
 refine aH Tryz.func86 fun κ _ Je Jc hm=>?_
 refine au 2 ?_
 refine bT hm fun m1 w hm=>?_
 refine au 15 ?_
 refine Jg (ι:=Nat×Int) rfl (ks:=[1,2]) Tn (fun x=>[(4,.int .i64 ((x.1:Int)-1)),(3,.int .i64 x.2)]) (fun x w=>Mem w0 w No [(m1,.row 26 (aZ oo nn H q cs.length cq))]∧x.1≤cs.length+1∧(x.2<0→∀ (j:Nat),j<x.1→Pl.gO (cs.map aa.cm) j<nn→0≤Pl.tF (cs.map aa.cm) (Pl.gO (cs.map aa.cm) j))∧(0≤x.2→∃ y:Int,0≤y∧y<nn∧¬ 0≤Pl.tF (cs.map aa.cm) y)) (fun x=>cs.length+1-x.1) (0,-1) (⟨(hm.pick [0] rfl),LL _,fun _ _ h=>absurd h (Nat.not_lt_zero _),fun h=>absurd h Tb⟩) Tm (fun x w hM=>?_)
 obtain ⟨hm,FD,cz,UO⟩:=hM
 refine au 10 ?_
 refine cd (fun ai=>?_) fun ai=>?_
 ·
  simp only [dT] at ai
  refine au 2 ?_
  refine Xc (ι:=Int) rfl (ks:=[1,2,4]) Tn (fun z=>[(3,.int .i64 z)]) (fun z w=>Mem w0 w No [(m1,.row 26 (aZ oo nn H q cs.length cq))]∧(z<0→∀ (j:Nat),j<x.1+1→Pl.gO (cs.map aa.cm) j<nn→0≤Pl.tF (cs.map aa.cm) (Pl.gO (cs.map aa.cm) j))∧(0≤z→∃ y:Int,0≤y∧y<nn∧¬ 0≤Pl.tF (cs.map aa.cm) y)) ?_ (fun z w hM=>?_)
  ·
   refine au 6 ?_
   refine Xc (ι:=Int) rfl (ks:=[1,2,3,4]) Tn (fun off=>[(5,.int .i64 off)]) (fun off w=>Mem w0 w No [(m1,.row 26 (aZ oo nn H q cs.length cq))]∧off=Pl.gO (cs.map aa.cm) x.1∧0≤off) ?_ (fun off w hM=>?_)
   ·
    refine au 6 ?_
    refine cd (fun ao=>?_) fun ao=>?_
    ·
     simp only [dT] at ao
     obtain ⟨c,hi⟩:∃ y_,cs[((x.1:Int)-1).toNat]?=some y_:=⟨_,La Ta⟩
     obtain ⟨qb,qo,rfl⟩:=hq.bS Jf Tb hi
     have ko:=Pl.Jl (Pl.Jw (jW c (Ld hi))).1
     have k2:c.cm.to=c.to:=rfl
     rw [k2] at ko
     have DK:Pl.gO (cs.map aa.cm) x.1=c.to+Pl.aw c.cm:=by
      obtain ⟨j,hj⟩:∃ j:Nat,x.1=j+1:=⟨x.1-1,Ta⟩
      have e:((x.1:Int)-1).toNat=j:=by omega
      rw [e] at hi
      rw [hj,Pl.pA (iZ hi)]; rfl
     refine dw [0,3,6,9,12,15,18,21,24,27,30,34,36,39] hm fun w hw ar hh hm=>?_
     refine au 5 ?_
     refine Ja rfl rfl (Yr rfl sc3.h (hq.Jj ar.to).nd Jf hi rfl)<|au 4 ?_
     refine Ja rfl rfl (JU rfl ag60.h (hq.Jj ar.to).nd Jf hi)<|cB rfl rfl rfl (mX c.cm c.d.p c.d.cap _) hm hh fun w hm hh=>au 3 ?_
     exact Qt _ ⟨(hm.pick [0] rfl),DK.symm,Ta⟩ Tm
    ·
     simp only [dF] at ao
     have DK:Pl.gO (cs.map aa.cm) x.1=0:=by
      have e:x.1=0:=by omega
      rw [e]; rfl
     refine au 1 ?_
     exact Qt _ ⟨(hm.pick [0] rfl),DK.symm,Ta⟩ Tm
   ·
    obtain ⟨hm,DK,hof0⟩:=hM
    refine au 7 ?_
    refine JK rfl rfl rfl (fun hc=>(Jm (s:=67) (vs:=aZ oo nn H _ cs.length cq) rfl ag26.h (hm.nt 0 rfl) rfl))<|au 1 ?_
    refine J1 rfl rfl rfl (fun hc=>(J8 (gx hc rfl) (J8 (gx hc rfl) QL))) go19 (fun hc=>(rm oo nn H _ cq cs _ _ (hq.Jj hm.to) eM hr)) trivial fun w hE hh=>?_
    replace hm:=hm.ext hE
    refine au 6 ?_
    refine YD rfl rfl rfl (fun hc=>(Jx rfl))<|YD rfl rfl rfl (fun hc=>(Jx rfl))<|YD rfl rfl rfl (fun hc=>(VO (gx hc rfl) (gx hc rfl)))<|JK rfl rfl rfl (fun hc=>(sh (gx hc rfl) rfl (ZV hc rfl)))<|au 3 ?_
    refine cd (fun aD=>?_) fun aD=>?_
    ·
     simp only [bA,bB,bC,bD,bE,bF,dT,dF] at aD
     refine au 5 ?_
     exact Qt off ⟨(hm.pick [0] rfl),fun h=>absurd h Ta,fun _=>⟨off,Ta,Ta,Ta⟩⟩ Tm
    ·
     simp only [bA,bB,bC,bD,bE,bF,dT,dF] at aD
     refine au 2 ?_
     refine Qt x.2 ⟨(hm.pick [0] rfl),fun h j hj Ut=>?_,UO⟩ Tm
     rcases L7 j x.1 with h1 | h1
     · exact cz h j h1 Ut
     · obtain rfl:j=x.1:=by omega
       rw [← DK] at Ut ⊢; omega
  ·
   obtain ⟨hm,jbk,UP⟩:=hM
   refine au 5 ?_
   refine next (x.1+1,z) Td ⟨(hm.pick [0] rfl),Td,jbk,UP⟩ ⟨LM (fun x=>some (Value.int .i64 x)) Td,Tm⟩
 ·
  simp only [dF] at ai
  have b8:x.1=cs.length+1:=by omega
  rw [b8] at cz
  refine au 13 ?_
  exact ⟨⟨_,rfl,cz,UO⟩,hm.to⟩
theorem DL(oo nn:Int)(H:Nat→UInt8)(q:Tg)(cq:Nat)(cs:List aa)(w0:World)(h1:Pl.aA oo)(h2:Pl.aA nn)(hq:Rd w0 q (cs.flatMap JM))(eM:cs.length≤4611686018427387903)(aq:∀ c∈cs,fE w0 c):C Tryz.prog 52 [.agg ⟨aZ oo nn H q cs.length cq⟩] w0 fun v w'=>(∃ e a,v=.tuple ⟨[.int .i64 e,.int .i64 a]⟩∧(e=0→Pl.VD oo nn (cs.map aa.cm))∧(e≠0→¬ Pl.VD oo nn (cs.map aa.cm)))∧Ext No w0 w':=by
 refine aH Tryz.func52 fun κ _ Je Jc hm=>?_
 refine au 2 ?_
 refine bT hm fun m1 w hm=>?_
 refine au 6 ?_
 refine dw [0,3,6,9,12,15,18,21,24,27,30,34,36,39,42,45,48,52,54,57] hm fun w hw ar hh hm=>?_
 refine au 11 ?_
 refine J1 rfl rfl rfl (fun hc=>rfl) go53 (fun hc=>(qY _)) hh fun w hE hh=>?_
 replace hm:=hm.ext hE
 refine au 5 ?_
 refine J1 rfl rfl rfl (fun hc=>rfl) go53 (fun hc=>(qY _)) hh fun w hE hh=>?_
 replace hm:=hm.ext hE
 refine au 4 ?_
 refine cd (fun ai=>?_) fun ai=>?_
 ·
  refine au 9 ?_
  exact ⟨⟨_,_,rfl,fun h=>absurd h Tb,fun _ hv=>by have:=hv.lens; simp at ai; omega⟩,hm.to⟩
 ·
  simp only [bD,dF] at ai
  refine au 9 ?_
  refine Jg (ι:=Nat) rfl (ks:=[1]) Tn (fun k=>[(4,.int .i64 k)]) (fun k w=>Mem w0 w No [(m1,.row 26 (aZ oo nn H q cs.length cq))]∧k≤cs.length∧∀ (j:Nat) c,j<k→cs[j]?=some c→Pl.single oo nn c.cm=0) (fun k=>cs.length-k) 0 (⟨(hm.pick [0] rfl),LL _,fun _ _ h=>absurd h (Nat.not_lt_zero _)⟩) Tm (fun k w hM=>?_)
  obtain ⟨hm,hk,cz⟩:=hM
  refine au 10 ?_
  refine cd (fun ao=>?_) fun ao=>?_
  ·
   simp only [dT] at ao
   obtain ⟨c,hi⟩:∃ y_,cs[k]?=some y_:=⟨_,La Ta⟩
   obtain ⟨qb,qo,rfl⟩:=hq.bS Jf Tb hi
   have dH:=aq c (Ld hi)
   have bL:=dH.2.2.2.2.le
   have Z6:=dH.2.2.2.2.max
   refine au 5 ?_
   refine dw [0,3,6,9,12,15,2,19,21] hm fun w hw ar hh hm=>?_
   refine Ja rfl rfl (Jm (s:=67) (vs:=aZ oo nn H _ cs.length cq) rfl ag26.h (ar.nd 0 rfl id) rfl)<|au 4 ?_
   refine Ja rfl rfl (JU rfl ag60.h (hq.Jj ar.to).nd Jf hi)<|au 1 ?_
   refine cA rfl rfl rfl (Aq oo nn H _ cq cs c.cm c.d.p c.d.cap _ dH.cm (by have:c.cm.bs.length=c.d.bs.length:=rfl; omega)) hm fun w hm=>au 9 ?_
   refine cd (fun aD=>?_) fun aD=>?_
   ·
    refine au 15 ?_
    exact ⟨⟨_,_,rfl,fun h=>absurd h (by simpa using aD),fun _ hv=>absurd (hv.one c.cm (Ln.2 ⟨c,Ld hi,rfl⟩)) (by simpa using aD)⟩,hm.to⟩
   ·
    refine au 8 ?_
    refine next (k+1) Ta ⟨(hm.pick [0] rfl),Ta,fun j d hj hd=>?_⟩ ⟨nx k,Tm⟩
    rcases L7 j k with h | h
    · exact cz j d h hd
    · obtain rfl:j=k:=by omega
      rw [hi] at hd; cases hd; simpa using aD
  ·
   simp only [dF] at ao
   have b8:k=cs.length:=by omega
   subst b8
   have fF:∀ c∈cs,Pl.single oo nn c.cm=0:=fun c hc=>by
    obtain ⟨j,hj,e⟩:=LU hc
    exact cz j c Ta (by rw [← e]; exact La hj)
   refine au 12 ?_
   refine Jg (ι:=Nat) rfl (ks:=[1]) Tn (fun x=>[(6,.int .i64 x)]) (fun x w=>Mem w0 w No [(m1,.row 26 (aZ oo nn H q cs.length cq))]∧x≤cs.length∧∀ (i j:Nat) ci cj,j<i→i<x→cs[i]?=some ci→cs[j]?=some cj→Pl.dj ci.cm cj.cm) (fun x=>cs.length-x) 0 (⟨(hm.pick [0] rfl),LL _,fun _ _ _ _ _ h=>absurd h (Nat.not_lt_zero _)⟩) Tm (fun x w hM=>?_)
   obtain ⟨hm,fN,UQ⟩:=hM
   refine au 10 ?_
   refine cd (fun bg=>?_) fun bg=>?_
   ·
    simp only [dT] at bg
    obtain ⟨c,hi⟩:∃ y_,cs[x]?=some y_:=⟨_,La Ta⟩
    obtain ⟨qb,qo,rfl⟩:=hq.bS Jf Tb hi
    have ko:=Pl.Jl (Pl.Jw (fF c (Ld hi))).1
    refine au 10 ?_
    refine Jg (ι:=Nat) rfl (ks:=[1,6]) Tn (fun y=>[(7,.int .i64 y)]) (fun y w=>Mem w0 w No [(m1,.row 26 (aZ oo nn H (some ⟨qb,qo,none⟩) cs.length cq))]∧y≤x∧∀ (j:Nat) cj,j<y→cs[j]?=some cj→Pl.dj c.cm cj.cm) (fun y=>x-y) 0 (⟨(hm.pick [0] rfl),LL _,fun _ _ h=>absurd h (Nat.not_lt_zero _)⟩) Tm (fun y w hM=>?_)
    obtain ⟨hm,Nu,cR⟩:=hM
    refine au 8 ?_
    refine cd (fun jG=>?_) fun jG=>?_
    ·
     simp only [dT] at jG
     obtain ⟨d,hj⟩:∃ y_,cs[y]?=some y_:=⟨_,La Ta⟩
     have fC:=Pl.Jl (Pl.Jw (fF d (Ld hj))).1
     refine au 5 ?_
     refine dw [0,3,6,9,12,18,21,24,27,30,16,2,34,37,39,42] hm fun w hw ar hh hm=>?_
     refine au 4 ?_
     refine Ja rfl rfl (JU rfl ag60.h (hq.Jj ar.to).nd Jf hi)<|au 4 ?_
     refine Ja rfl rfl (JU rfl ag60.h (hq.Jj ar.to).nd Jf hj)<|cB rfl rfl rfl (Y6 c.cm c.d.p c.d.cap _) hm hh fun w hm hh=>au 1 ?_
     refine cA rfl rfl rfl (Y6 d.cm d.d.p d.d.cap _) hm fun w hm=>cA rfl rfl rfl (wG c.cm.to (Pl.aw c.cm) d.cm.to (Pl.aw d.cm) _ Ta Ta) hm fun w hm=>Ja rfl rfl (QF rfl fv32_1 rfl)<|au 3 ?_
     refine cd (fun uq=>?_) fun uq=>?_
     ·
      refine au 18 ?_
      exact ⟨⟨_,_,rfl,fun h=>absurd h Tb,fun _ hv=>Pl.GQ (by simpa using uq) (hv.dis x y _ _ Ta (iZ hi) (iZ hj))⟩,hm.to⟩
     ·
      refine au 8 ?_
      refine next (y+1) Ta ⟨(hm.pick [0] rfl),Ta,fun j cj hjy wN=>?_⟩ ⟨nx y,Tm⟩
      rcases L7 j y with h | h
      · exact cR j cj h wN
      · obtain rfl:j=y:=by omega
        rw [hj] at wN; cases wN; exact Pl.MZ (by simpa using uq) Ta Ta
    ·
     simp only [dF] at jG
     have Ad:x=y:=by omega
     subst Ad
     refine au 11 ?_
     refine next (x+1) Ta ⟨(hm.pick [0] rfl),Ta,fun i j ci cj vA oQ yc wN=>?_⟩ ⟨nx x,Tm⟩
     rcases L7 i x with h | h
     · exact UQ i j ci cj vA h yc wN
     · obtain rfl:i=x:=by omega
       rw [hi] at yc; cases yc; exact cR j cj Ta wN
   ·
    simp only [dF] at bg
    have b8:x=cs.length:=by omega
    subst b8
    refine au 7 ?_
    refine Ja rfl rfl (Jm (s:=67) (vs:=aZ oo nn H _ cs.length cq) rfl ag26.h (hm.nt 0 rfl) rfl)<|cT rfl rfl rfl (NX oo nn H _ cq cs _ (hq.Jj hm.to) eM Ta (fun c hc=>fE.mono (aq c hc) hm.to) fF) fun v w hR=>?_
    obtain ⟨⟨x9,rfl,FF,cX⟩,hE⟩:=hR
    replace hm:=hm.ext hE
    refine au 10 ?_
    refine cd (fun jX=>?_) fun jX=>?_
    ·
     simp only [dT] at jX
     refine au 10 ?_
     exact ⟨⟨_,_,rfl,fun h=>absurd h Tb,fun _ hv=>by obtain ⟨y,h3,h4,h5⟩:=cX jX; exact h5 (Pl.qQ.2 (hv.cov y h3 h4))⟩,hm.to⟩
    ·
     simp only [dF] at jX
     refine au 10 ?_
     exact ⟨⟨_,_,rfl,fun _=>⟨Ta,M1 fun j c hj hc=>fF c (Ld hc),fun i j ci cj vA yc wN=>by obtain ⟨a,ha,rfl⟩:=tI yc; obtain ⟨b,hb,rfl⟩:=tI wN; exact UQ i j a b vA (Le.1 ha).1 ha hb,fun y h3 h4=>by obtain ⟨c,hc,hb⟩:=Pl.CP (fun j hj=>FF Ta j (by simpa using Nat.lt_succ_of_le hj)) y.toNat Ta; exact ⟨c,hc,by rw [Int.toNat_of_nonneg h3] at hb; exact hb⟩⟩,fun h=>absurd rfl h⟩,hm.to⟩
theorem ur(oo nn:Int)(H:Nat→UInt8)(q:Tg)(cq:Nat)(cs:List aa)(w0:World)(h1:Pl.aA oo)(h2:Pl.aA nn)(hq:Rd w0 q (cs.flatMap JM))(eM:cs.length≤4611686018427387903)(aq:∀ c∈cs,fE w0 c):C Tryz.prog 31 [.agg ⟨aZ oo nn H q cs.length cq⟩] w0 fun v w'=>v=.bool (Pl.mL oo nn (cs.map aa.cm))∧Ext No w0 w':=by
 refine aH Tryz.func31 fun κ _ Je Jc hm=>?_
 refine au 2 ?_
 refine bT hm fun m1 w hm=>?_
 refine au 5 ?_
 refine Ja rfl rfl (Jm (s:=67) (vs:=aZ oo nn H _ cs.length cq) rfl ag26.h (hm.nt 0 rfl) rfl)<|cT rfl rfl rfl (DL oo nn H _ cq cs _ h1 h2 (hq.Jj hm.to) eM (fun c hc=>fE.mono (aq c hc) hm.to)) fun v w hR=>?_
 obtain ⟨⟨e9,a9,rfl,hv1,Hh⟩,hE⟩:=hR
 replace hm:=hm.ext hE
 refine au 16 ?_
 have PW:decide (e9=0)=Pl.mL oo nn (cs.map aa.cm):=by
  by_cases he:e9=0
  · rw [Pl.qP.2 (hv1 he),he]; rfl
  · rw [Pl.SD (Hh he),LN he]
 exact ⟨LM Value.bool PW,hm.to⟩
theorem Ht(oo nn:Int)(H:Nat→UInt8)(q:Tg)(cq:Nat)(cs:List aa)(r:Tg)(cr:Nat)(f:Th)(w0:World)(h1:Pl.aA oo)(h2:Pl.aA nn)(hq:Rd w0 q (cs.flatMap JM))(eM:cs.length≤4611686018427387903)(aq:∀ c∈cs,fE w0 c):C Tryz.prog 16 [.slice r f.length cr,.agg ⟨aZ oo nn H q cs.length cq⟩] w0 fun v w'=>v=.bool ((cs.all (fun c=>decide (c.d.bs.length≤300))&&decide (cs.length≤40))&&Pl.mL oo nn (cs.map aa.cm)&&decide (oo=f.length)&&decide (nn≤3000))∧Ext No w0 w':=by
 refine aH Tryz.func16 fun κ _ Je Jc hm=>?_
 refine au 2 ?_
 refine bT hm fun m1 w hm=>?_
 refine au 5 ?_
 refine Ja rfl rfl (Jm (s:=67) (vs:=aZ oo nn H _ cs.length cq) rfl ag26.h (hm.nt 0 rfl) rfl)<|cA rfl rfl rfl (DJ oo nn H q cq cs _ (hq.Jj hm.to) eM) hm fun w hm=>au 1 ?_
 refine JK rfl rfl rfl (fun hc=>(Jm (s:=67) (vs:=aZ oo nn H _ cs.length cq) rfl ag26.h (hm.nt 0 rfl) rfl))<|J1 rfl rfl rfl (fun hc=>(J8 (gx hc rfl) QL)) go31 (fun hc=>(ur oo nn H q cq cs _ h1 h2 (hq.Jj hm.to) eM (fun c hc=>fE.mono (aq c hc) hm.to))) trivial fun w hE hh=>?_
 replace hm:=hm.ext hE
 refine au 5 ?_
 refine JK rfl rfl rfl (fun hc=>(gq (gx hc rfl) rfl sl22.h))<|au 12 ?_
 exact ⟨rfl,hm.to⟩
end Go.Proofs.YtaehgpeenaomcaaGreat
