/- Part 13 of the proof of TopShapes: CvA CvB CvC CvD CwA CwB ApA ApB ApC ApD ApE. Conditions: the hypotheses of each theorem. -/
import Derived.Test.YtaehgpeenaomcaaGreatY11
import Derived.Test.YtaehgpeenaomcaaGreatChecked
set_option maxRecDepth 10000
set_option maxHeartbeats 4000000
set_option linter.unusedVariables false
set_option linter.unusedSimpArgs false
namespace Go.Proofs.YtaehgpeenaomcaaGreat
open Go Go.Cx
end Go.Proofs.YtaehgpeenaomcaaGreat
namespace Go.Pl
open Go Go.Cx Go.Proofs.YtaehgpeenaomcaaGreat
def Xa(cs:List CmdV)(k:Nat):List Int:=(Pl.ids k).filter fun i=>decide ((cs[i.toNat]?).map CmdV.k=some 2)
end Go.Pl
namespace Go.Proofs.YtaehgpeenaomcaaGreat
open Go Go.Cx
theorem litN_next{cs:List CmdV}{k:Nat}{c:CmdV}(h:cs[k]?=some c):Pl.Xa cs (k+1)=Pl.Xa cs k++if c.k=2 then [(k:Int)] else []:=by
 unfold Pl.Xa
 rw [Pl.ids_next,List.filter_append]
 congr 1
 by_cases hc:c.k=2
 · rw [LI hc,List.filter_cons,LI (by simp [h,hc])]; rfl
 · rw [LH hc,List.filter_cons,LH (by simp [h,hc])]; rfl
theorem litN_le(cs:List CmdV)(k:Nat):(Pl.Xa cs k).length≤k:=by
 have:=List.length_filter_le (fun i:Int=>decide ((cs[i.toNat]?).map CmdV.k=some 2)) (Pl.ids k)
 rwa [Pl.Qj] at this
theorem litN_mem{cs:List CmdV}{k:Nat}{v:Int}:v∈Pl.Xa cs k↔0≤v∧v<k∧(cs[v.toNat]?).map CmdV.k=some 2:=by
 unfold Pl.Xa
 rw [L5,Pl.XK,LO,and_assoc]
theorem cyc_lit{cs:List CmdV}{E:List (Int×Int)}(hE:∀ e,e∈E↔Pl.CfE cs cs.length e)(ss:List Int)(v:Int)(h:Pl.Path (Pl.wo E ss) v v):v∉Pl.Xa cs cs.length:=fun hv=>by
 have:∀ {a b:Int},Pl.Path (Pl.wo E ss) a b→∃ u,(a,u)∈Pl.wo E ss:=by
  intro a b hp
  induction hp with
  | one he=>exact ⟨_,he⟩
  | more _ _ ih=>exact ih
 obtain ⟨u,hu⟩:=this h
 obtain ⟨i,j,a,b,he,h1,h2,h3,h4,h5⟩:=(hE _).1 (Pl.Vp.1 hu).1
 simp only [Prod.mk.injEq] at he
 have h6:=(litN_mem.1 hv).2.2
 rw [he.1,LD,h3] at h6
 simp only [Option.map_some,Option.some.injEq] at h6
 unfold Pl.cf at h5
 simp [h6] at h5
theorem ord_ac{cs:List CmdV}{E:List (Int×Int)}{out K:List Int}(hE:∀ e∈E,0≤e.1∧e.1<(cs.length:Int)∧0≤e.2∧e.2<(cs.length:Int))(hc:∀ v,¬ Pl.Path (Pl.wo E out) v v)(h1:∀ v∈K,v∈Pl.nsk (Pl.Xa cs cs.length++out) cs.length)(h2:∀ v∈K,∃ u∈Pl.ins E v,u∈K):K=[]:=
 Pl.no_cyc hc fun v hv=>by
  obtain ⟨u,hu,hk⟩:=h2 v hv
  have h3:=(Pl.Vh.1 (h1 v hv)).2.2
  have h4:=(Pl.Vh.1 (h1 u hk)).2.2
  simp only [Ls,not_or] at h3 h4
  exact ⟨u,hk,Pl.Vp.2 ⟨Pl.Zc.1 hu,h4.2,h3.2⟩⟩
theorem v_lits(q:Option Addr)(cq mh:Nat)(cs:List CmdV)(w0:World)(hq:Rd w0 q (cs.flatMap JM))(hl:cs.length≤40):C Tryz.prog 99 [.agg ⟨[.slice q cs.length cq,.pointer (some ⟨mh,0,none⟩)]⟩] w0 fun v w'=>∃ p c g b,v=.slice p (Pl.Xa cs cs.length).length c∧Acc 3 1 p (Pl.Xa cs cs.length).length c ((Pl.Xa cs cs.length).flatMap Cx.encI) g b∧Mem w0 w' No [(g,b)]:=by
 refine C_o Tryz.func99 fun κ _ Je Jc hm=>?_
 refine au 2 ?_
 refine bT hm fun mr w hm=>?_
 refine au 6 ?_
 replace hm:=hm.JP
 have ha_o:=Acc.nil 3 1 none 0
 refine au 12 ?_
 refine Jg (ι:=Nat×Ow) rfl (ks:=[2,7,8]) (.cons rfl (.cons rfl (.cons rfl .nil))) (fun x=>[(9,.int .i64 (x.1:Int)),(3,.slice x.2.p x.2.n x.2.cap)]) (fun x w=>Mem w0 w No [(x.2.g,x.2.b),(mr,.row 133 [.slice q cs.length cq,.pointer (some ⟨mh,0,none⟩)])]∧Acc 3 1 x.2.p x.2.n x.2.cap ((Pl.Xa cs x.1).flatMap Cx.encI) x.2.g x.2.b∧x.1≤cs.length) (fun x=>cs.length-x.1) (0,⟨none,0,0,0,.gap⟩) (⟨(hm.pick [0,1] rfl),ha_o,LL _⟩) ⟨rfl,rfl,trivial⟩ (fun x w hM=>?_)
 obtain ⟨k,p_o,n_o,cap_o,g_o,b_o⟩:=x
 obtain ⟨hm,ha_o,hk⟩:=hM
 simp only at hm ha_o hk ⊢
 obtain rfl:=ha_o.QB Jq (by decide)
 have hll:=litN_le cs k
 refine au 6 ?_
 refine cd (fun hc0=>?_) fun hc0=>?_
 ·
  simp only [dT] at hc0
  obtain ⟨c,hi⟩:∃ y_,cs[k]?=some y_:=⟨_,La (by omega)⟩
  obtain ⟨qb,qo,rfl⟩:=hq.atI Jf (by decide) hi
  refine au 8 ?_
  refine Ja rfl rfl (JU rfl ag60.h (hq.Jj hm.to).nt Jf hi) ?_
  refine aT hm fun mc w hm=>?_
  refine au 1 ?_
  refine st hm 0 fun w hm=>?_
  refine au 9 ?_
  refine cd (fun hc1=>?_) fun hc1=>?_
  ·
   simp only [dT] at hc1
   refine au 3 ?_
   refine Jb (l:=[_]) rfl rfl sl134.h z3.h rfl rfl rfl rfl rfl rfl rfl hm trivial fun m1 w hg_m1 hm hh=>?_
   refine Jy rfl rfl rfl rfl rfl rfl sl134.h sl134.h z3.h rfl rfl (Rd.JL (hm.get (k:=0) rfl)) rfl ha_o hm 2 rfl (by omega) (by omega) fun p_o cap_o g_o b_o w ha_o hm=>?_
   refine au 8 ?_
   exact next (k+1,⟨p_o,_,cap_o,g_o,b_o⟩) (by simp only; omega) ⟨(hm.pick [2,3] rfl),ha_o.to (by simp only; rw [litN_next hi,LI hc1,Lh]; rfl),by simp only; omega⟩ ⟨nx k,rfl,rfl,rfl,rfl,trivial⟩
  ·
   simp only [dF] at hc1
   refine au 7 ?_
   exact next (k+1,⟨p_o,_,cap_o,g_o,b_o⟩) (by simp only; omega) ⟨(hm.pick [1,2] rfl),ha_o.to (by simp only; rw [litN_next hi,LH hc1,Lq]),by simp only; omega⟩ ⟨nx k,rfl,rfl,rfl,rfl,trivial⟩
 ·
  simp only [dF] at hc0
  have hke:k=cs.length:=by omega
  rw [hke] at ha_o ⊢
  refine au 13 ?_
  exact ⟨p_o,cap_o,g_o,b_o,rfl,ha_o,(hm.pick [0] rfl)⟩
theorem v_choose(q:Option Addr)(cq mh:Nat)(cs:List CmdV)(w0:World)(hq:Rd w0 q (cs.flatMap JM))(hl:cs.length≤40)(E:List (Int×Int))(Z:List (Nat×Blk))(hZ:Jr w0 Z)(hz:QP 239 3 cs.length E mh Z)(hE:E.length≤1600)(hcf:∀ e,e∈E↔Pl.CfE cs cs.length e):C Tryz.prog 97 [.agg ⟨[.slice q cs.length cq,.pointer (some ⟨mh,0,none⟩)]⟩] w0 fun v w'=>∃ (p:Option Addr) (k c g:Nat) (b:Blk) (out:List Int),v=.slice p k c∧Acc 3 1 p k c (out.flatMap Cx.encI) g b∧Pl.Evs E (cs.map CmdV.ln) (Pl.Xa cs cs.length) out∧(∀ v,¬ Pl.Path (Pl.wo E out) v v)∧out.Nodup∧(∀ v∈out,0≤v∧v<(cs.length:Int))∧Mem w0 w' No [(g,b)]:=by
 have hEl:=hE
 have hcl:=cyc_lit hcf
 refine C_o Tryz.func97 fun κ _ Je Jc hm=>?_
 refine au 2 ?_
 refine bT hm fun mr w hm=>?_
 refine au 6 ?_
 replace hm:=hm.JP
 have ha_o:=Acc.nil 3 1 none 0
 refine au 12 ?_
 refine Jg (ι:=Nat×Ow) rfl (ks:=[1,2,9,10]) (.cons rfl (.cons rfl (.cons rfl (.cons rfl .nil)))) (fun x=>[(11,.int .i64 (x.1:Int)),(3,.slice x.2.p x.2.n x.2.cap)]) (fun x w=>Mem w0 w No [(x.2.g,x.2.b),(mr,.row 133 [.slice q cs.length cq,.pointer (some ⟨mh,0,none⟩)])]∧Acc 3 1 x.2.p x.2.n x.2.cap (((cs.take x.1).map CmdV.ln).flatMap Cx.encI) x.2.g x.2.b∧x.1≤cs.length) (fun x=>cs.length-x.1) (0,⟨none,0,0,0,.gap⟩) (⟨(hm.pick [0,1] rfl),ha_o,LL _⟩) ⟨rfl,rfl,trivial⟩ (fun x w hM=>?_)
 obtain ⟨k,p_o,n_o,cap_o,g_o,b_o⟩:=x
 obtain ⟨hm,ha_o,hk⟩:=hM
 simp only at hm ha_o hk ⊢
 obtain rfl:=ha_o.QB Jq (by decide)
 have hll:((cs.take k).map CmdV.ln).length≤k:=by rw [Lj,Lg]; omega
 refine au 6 ?_
 refine cd (fun hc0=>?_) fun hc0=>?_
 ·
  simp only [dT] at hc0
  obtain ⟨c,hi⟩:∃ y_,cs[k]?=some y_:=⟨_,La (by omega)⟩
  obtain ⟨qb,qo,rfl⟩:=hq.atI Jf (by decide) hi
  refine au 7 ?_
  refine Ja rfl rfl (JU rfl ag60.h (hq.Jj hm.to).nt Jf hi) ?_
  refine aT hm fun mc w hm=>?_
  refine st hm 0 fun w hm=>?_
  refine au 6 ?_
  refine Jb (l:=[_]) rfl rfl sl134.h z3.h rfl rfl rfl rfl rfl rfl rfl hm trivial fun m1 w hg_m1 hm hh=>?_
  refine Jy rfl rfl rfl rfl rfl rfl sl134.h sl134.h z3.h rfl rfl (Rd.JL (hm.get (k:=0) rfl)) rfl ha_o hm 2 rfl (by omega) (by omega) fun p_o cap_o g_o b_o w ha_o hm=>?_
  refine au 8 ?_
  exact next (k+1,⟨p_o,_,cap_o,g_o,b_o⟩) (by simp only; omega) ⟨(hm.pick [2,3] rfl),ha_o.to (by simp only; rw [QG hi,Lx,Lh]; rfl),by simp only; omega⟩ ⟨nx k,rfl,rfl,rfl,rfl,rfl,trivial⟩
 ·
  simp only [dF] at hc0
  have hke:k=cs.length:=by omega
  rw [hke,Lv] at ha_o ⊢
  have hll2:=litN_le cs cs.length
  have hwl2:(cs.map CmdV.ln).length=cs.length:=Lj _
  refine au 6 ?_
  refine dw [0,3,6,9,13,16,18,21,24,27,30] hm fun w hw hm0 hh hm=>?_
  refine au 4 ?_
  refine ca rfl rfl rfl (v_lits q cq mh cs _ (hq.Jj hm.to) hl) fun v w hR=>?_
  obtain ⟨p_k,cap_k,g_k,b_k,rfl,ha_k,hmc⟩:=hR
  refine ⟨hh.ext hmc.to,?_⟩
  have hg_k:b_k.real=true→_:=fun hr=>(hmc.fresh _ Lo hr).resolve_left id
  replace hh:=hh.ext hmc.to
  replace hm:=hm.Jt hmc
  refine ca rfl rfl rfl (e_choose cs.length mh E Z _ (hZ.ext hm.to) hz (by omega) p_o cap_o (cs.map CmdV.ln) (ha_o.rd hm 1 rfl) (by omega) p_k cap_k (Pl.Xa cs cs.length) (ha_k.rd hm 0 rfl) (by omega) hcl (by omega)) fun v w hR=>?_
  obtain ⟨p_e,n_e,cap_e,g_e,b_e,evd,rfl,ha_e,hev,hnc,hend,hein,hmc⟩:=hR
  refine ⟨hh.ext hmc.to,?_⟩
  replace hm:=hm.Jt hmc
  obtain rfl:=ha_e.QB Jq (by decide)
  replace hh:=hh.ext hmc.to
  refine au 15 ?_
  exact ⟨p_e,_,cap_e,g_e,b_e,evd,rfl,ha_e,hev,hnc,hend,hein,(hm.pick [0] rfl)⟩
theorem v_of(q:Option Addr)(cq:Nat)(cs:List CmdV)(w0:World)(hq:Rd w0 q (cs.flatMap JM))(hl:cs.length≤40)(hck:∀ c∈cs,Pl.ccheck c.cm=0)(hd:(cs.map Pl.tgE).Pairwise Pl.dj2):C Tryz.prog 65 [.slice q cs.length cq] w0 fun v w'=>∃ (mh:Nat) (p1:Option Addr) (c1 g1:Nat) (b1:Blk) (evd:List Int) (p2:Option Addr) (c2 g2:Nat) (b2:Blk) (ord:List Int) (E:List (Int×Int)),v=.agg ⟨[.slice q cs.length cq,.pointer (some ⟨mh,0,none⟩),.slice p1 evd.length c1,.slice p2 ord.length c2]⟩∧Acc 3 1 p1 evd.length c1 (evd.flatMap Cx.encI) g1 b1∧Acc 3 1 p2 ord.length c2 (ord.flatMap Cx.encI) g2 b2∧(∀ e,e∈E↔Pl.CfE cs cs.length e)∧Pl.Evs E (cs.map CmdV.ln) (Pl.Xa cs cs.length) evd∧Pl.Kahn E (Pl.nsk ((Pl.Xa cs cs.length)++evd) cs.length) ord []∧evd.Nodup∧(∀ v∈evd,0≤v∧v<(cs.length:Int))∧Mem w0 w' No [(g1,b1),(g2,b2)]:=by
 refine C_o Tryz.func65 fun κ _ Je Jc hm=>?_
 refine au 2 ?_
 refine aT hm fun mt w hm=>?_
 refine au 6 ?_
 refine cT rfl rfl rfl (q_graph q cq cs _ (hq.Jj hm.to) hl hck hd) fun v w hR=>?_
 obtain ⟨E,mh,Zh,rfl,hz,hEl,hcf,hmc⟩:=hR
 replace hm:=hm.XR hmc
 have hok:∀ e∈E,0≤e.1∧e.1<(cs.length:Int)∧0≤e.2∧e.2<(cs.length:Int):=by obtain ⟨_,_,_,_,_,_,_,_,_,hg,_⟩:=hz; exact fun e he=>by have:=hg.ok e he; omega
 refine au 1 ?_
 refine Ja rfl rfl (Qe (cs:=[_,_,_,_]) z136.h ft136.h rfl rfl rfl rfl rfl) ?_
 refine aT hm fun mc w hm=>?_
 refine st hm 0 fun w hm=>?_
 refine au 6 ?_
 refine cT rfl rfl rfl (v_choose q cq mh cs _ (hq.Jj hm.to) hl E Zh (Jr.right (A:=[_,_]) hm.Jz) hz hEl hcf) fun v w hR=>?_
 obtain ⟨p_e,n_e,cap_e,g_e,b_e,evd,rfl,ha_e,hev,hnc,hend,hein,hmc⟩:=hR
 replace hm:=hm.Jt hmc
 obtain rfl:=ha_e.QB Jq (by decide)
 have hll:=litN_le cs cs.length
 have hevl:evd.length≤cs.length:=by have:=Pl.VE (m:=Pl.ids cs.length) hend (fun v hv=>Pl.XK.2 (hein v hv)); rwa [Pl.Qj] at this
 refine au 1 ?_
 refine st hm 1 fun w hm=>?_
 refine au 3 ?_
 refine dw [0,3,6,9,12,18,21,16,25,28,30,33,36,2,39,43] hm fun w hw hm0 hh hm=>?_
 refine au 7 ?_
 refine ca rfl rfl rfl (v_lits q cq mh cs _ (hq.Jj hm.to) hl) fun v w hR=>?_
 obtain ⟨p_k,cap_k,g_k,b_k,rfl,ha_k,hmc⟩:=hR
 refine ⟨hh.ext hmc.to,?_⟩
 have hg_k:b_k.real=true→_:=fun hr=>(hmc.fresh _ Lo hr).resolve_left id
 replace hh:=hh.ext hmc.to
 replace hm:=hm.Jt hmc
 refine Xm rfl rfl rfl rfl rfl rfl sl134.h sl134.h z3.h rfl (oneI _) (ha_e.rd hm 1 rfl) (lenI1 _) ha_k hm 0 rfl (by omega) (by omega) hh (fun h9=>.inl (hg_k h9)) fun p_k cap_k g_k b_k w _ ha_k hm hh hg_k=>?_
 have hlen9:(Pl.Xa cs cs.length).length+evd.length=((Pl.Xa cs cs.length)++evd).length:=(Lc ..).symm
 rw [hlen9] at ha_k ⊢
 rw [← Lh] at ha_k
 refine ca rfl rfl rfl (o_order cs.length mh E Zh _ (Jr.right (A:=[_,_,_,_]) hm.Jz) hz (by omega) p_k cap_k ((Pl.Xa cs cs.length)++evd) (ha_k.rd hm 0 rfl) (by rw [← hlen9]; omega) (fun K h1 h2=>ord_ac hok hnc h1 h2)) fun v w hR=>?_
 obtain ⟨p_r,n_r,cap_r,g_r,b_r,ord,rfl,ha_r,hkn,hmc⟩:=hR
 refine ⟨hh.ext hmc.to,?_⟩
 replace hm:=hm.Jt hmc
 obtain rfl:=ha_r.QB Jq (by decide)
 replace hh:=hh.ext hmc.to
 refine au 5 ?_
 refine st hm 3 fun w hm=>?_
 refine au 4 ?_
 refine Ja rfl rfl (Jm (s:=4) (vs:=[_,_,_,_]) rfl ag136.h (hm.nt 3 rfl) rfl) ?_
 refine st hm 4 fun w hm=>?_
 refine au 3 ?_
 refine toR (fin Je rfl (.cell rfl (Ju (vs:=[_,_,_,_]) ag136.h (hm.get (k:=4) rfl) rfl) .nil) .one ?_)
 exact ⟨mh,p_e,cap_e,g_e,b_e,evd,p_r,cap_r,g_r,b_r,ord,E,rfl,ha_e,ha_r,hcf,hev,hkn,hend,hein,(hm.pick [2,0] rfl)⟩
end Go.Proofs.YtaehgpeenaomcaaGreat
namespace Go.Pl
open Go Go.Cx Go.Proofs.YtaehgpeenaomcaaGreat
def VW(old:List UInt8)(evd:List Int)(i:Nat)(c:Pl.Cm):Pl.Cm:=if c.k=1∧(i:Int)∈evd then ⟨2,c.to,0,0,(old.drop c.fr.toNat).take c.ln.toNat⟩ else c
def Vj(old:List UInt8)(evd:List Int)(cs:List Pl.Cm)(k:Nat):List Pl.Cm:=cs.mapIdx fun i c=>if i<k then Pl.VW old evd i c else c
end Go.Pl
namespace Go.Proofs.YtaehgpeenaomcaaGreat
open Go Go.Cx
theorem litsN_zero(old:List UInt8)(evd:List Int)(cs:List Pl.Cm):Pl.Vj old evd cs 0=cs:=by
 unfold Pl.Vj
 refine Kb fun i=>?_
 rw [List.getElem?_mapIdx]
 cases cs[i]? <;> simp
theorem litsN_next{old:List UInt8}{evd:List Int}{cs:List Pl.Cm}{k:Nat}{c:Pl.Cm}(h:cs[k]?=some c):Pl.Vj old evd cs (k+1)=(Pl.Vj old evd cs k).set k (Pl.VW old evd k c):=by
 unfold Pl.Vj
 refine Kb fun i=>?_
 rw [List.getElem?_set,List.getElem?_mapIdx,List.getElem?_mapIdx,List.length_mapIdx]
 have hk:=(Le.1 h).1
 by_cases e:k=i
 · subst e
   rw [LI rfl,LI hk,h]
   simp
 · rw [LH e]
   cases cs[i]? with
   | none=>rfl
   | some d=>
    simp only [Option.map_some]
    by_cases hi:i<k
    · rw [LI hi,LI (by omega)]
    · rw [LH hi,LH (by omega)]
theorem litsN_skip{old:List UInt8}{evd:List Int}{cs:List Pl.Cm}{k:Nat}{c:Pl.Cm}(h:cs[k]?=some c)(hl:Pl.VW old evd k c=c):Pl.Vj old evd cs (k+1)=Pl.Vj old evd cs k:=by
 rw [litsN_next h,hl]
 refine Kb fun i=>?_
 rw [List.getElem?_set]
 by_cases e:k=i
 · subst e
   unfold Pl.Vj
   rw [LI rfl,List.length_mapIdx,LI (Le.1 h).1,List.getElem?_mapIdx,h]
   simp
 · rw [LH e]
theorem held_set{B:List (Nat×Blk)}{q:Nat×Blk}{u8:Nat}{xs:List CmdV}{x:CmdV}{k:Nat}(h:∀ x∈xs,Held B u8 x.d)(hx:Held (B++[q]) u8 x.d):∀ y∈xs.set k x,Held (B++[q]) u8 y.d:=fun y hy=>by
 rcases List.mem_or_eq_of_mem_set hy with hy | rfl
 · exact (h y hy).mono fun e he=>Lw _ he
 · exact hx
theorem t_lits(oo nn:Int)(H:Nat→UInt8)(po:Option Addr)(co:Nat)(old:List UInt8)(q:Option Addr)(cq:Nat)(cs:List CmdV)(pe:Option Addr)(ce:Nat)(evd:List Int)(w0:World)(ho:Rd w0 po (old.flatMap Jk))(hol:old.length≤co∧old.length≤1000000)(hos:co≠0→∀ ad,po=some ad→ad.spot=none)(hq:Rd w0 q (cs.flatMap JM))(hl:cs.length≤1000)(hok:∀ c∈cs,Q1 w0 c)(hbl:∀ c∈cs,c.d.bs.length≤140737488355328)(hck:∀ c∈cs,Pl.ccheck c.cm=0)(hsr:∀ c∈cs,c.k=1→c.fr+c.ln≤old.length)(he:Rd w0 pe (evd.flatMap Cx.encI))(hel:evd.length≤1000000)(hoo:oo=old.length):C Tryz.prog 66 [.slice po old.length co,.agg ⟨dlV oo nn H q cs.length cq⟩,.slice pe evd.length ce] w0 fun v w'=>∃ (ys:List CmdV) (p:Option Addr) (cap g:Nat) (b:Blk) (B:List (Nat×Blk)),v=.tuple ⟨[.agg ⟨dlV oo nn H p ys.length cap⟩,.bool true]⟩∧Acc 60 5 p ys.length cap (ys.flatMap JM) g b∧ys.map CmdV.cm=Pl.Vj old evd (cs.map CmdV.cm) cs.length∧(∀ y∈ys,Held B 5 y.d)∧Mem w0 w' No ((g,b)::B):=by
 refine C_o Tryz.func66 fun κ _ Je Jc hm=>?_
 refine au 2 ?_
 refine bT hm fun m4 w hm=>?_
 refine aT hm fun m6 w hm=>?_
 refine au 10 ?_
 refine Ja rfl rfl (JA (c:=false) (XD rfl rfl) (LN (fun h=>h hoo))) ?_
 refine au 7 ?_
 refine Ja rfl rfl (Jm (s:=67) (vs:=dlV oo nn H _ _ _) rfl ag26.h (hm.nt 1 rfl) rfl) ?_
 refine au 2 ?_
 have hcon:=d_with oo nn H q cs.length cq q cq cs _ (hq.Jj hm.to) (fun c hc=>Q1.mono (hok c hc) hm.to) (by omega) hbl
 refine cT rfl rfl rfl hcon fun v w hR=>?_
 obtain ⟨xs_u,p_u,n_u,cap_u,g_u,b_u,B_u,rfl,ha_u,hx_u,hh_u,hmc⟩:=hR
 replace hm:=hm.VZ hmc
 obtain rfl:=ha_u.QB Jf (by decide)
 refine aT hm fun m8 w hm=>?_
 refine st hm 0 fun w hm=>?_
 replace hm:=Xu hm rfl
 have hxl:xs_u.length=cs.length:=by have:=LM List.length hx_u; simpa using this
 refine au 12 ?_
 refine Jg (ι:=Nat×List CmdV×Blk×List (Nat×Blk)) rfl (ks:=[0,2,6,7,8,24,25]) (.cons rfl (.cons rfl (.cons rfl (.cons rfl (.cons rfl (.cons rfl (.cons rfl .nil))))))) (fun x=>[(26,.int .i64 (x.1:Int))]) (fun x w=>Mem w0 w No ((m8,.row 26 (dlV oo nn H p_u xs_u.length cap_u))::(g_u,x.2.2.1)::(m6,.row 26 (dlV 0 0 (fun _=>0) none 0 0))::(m4,.row 26 (dlV oo nn H q cs.length cq))::x.2.2.2)∧Acc 60 5 p_u xs_u.length cap_u (x.2.1.flatMap JM) g_u x.2.2.1∧x.2.1.map CmdV.cm=Pl.Vj old evd (cs.map CmdV.cm) x.1∧(∀ y∈x.2.1,Held x.2.2.2 5 y.d)∧x.1≤cs.length) (fun x=>cs.length-x.1) (0,xs_u,b_u,B_u) (⟨(hm.Jp [0,1,2,3] 4 rfl),ha_u,by rw [hx_u,litsN_zero],hh_u,LL _⟩) ⟨rfl,trivial⟩ (fun x w hM=>?_)
 obtain ⟨k,zs,b_u,B9⟩:=x
 obtain ⟨hm,ha_u,hzc,hH,hk⟩:=hM
 simp only at hm ha_u hzc hH hk ⊢
 have hzl:=ha_u.QB Jf (by decide)
 refine au 6 ?_
 refine cd (fun hc1=>?_) fun hc1=>?_
 ·
  simp only [dT] at hc1
  obtain ⟨c,hi⟩:∃ y_,cs[k]?=some y_:=⟨_,La (by omega)⟩
  obtain ⟨qb,qo,rfl⟩:=hq.atI Jf (by decide) hi
  have hcm9:(cs.map CmdV.cm)[k]?=some c.cm:=by rw [Lt,hi]; rfl
  have hck9:=hck c (Ld hi)
  have hsr9:=hsr c (Ld hi)
  obtain rfl:=ha_u.ptr (by omega)
  refine au 8 ?_
  refine Ja rfl rfl (JU rfl ag60.h (hq.Jj hm.to).nt Jf hi) ?_
  refine aT hm fun mc w hm=>?_
  refine au 1 ?_
  refine st hm 0 fun w hm=>?_
  refine au 5 ?_
  refine cA rfl rfl rfl (VI c.cm c.d.p c.d.cap _) hm fun w hm=>?_
  refine au 3 ?_
  refine aT hm fun ms w hm=>?_
  refine st hm 0 fun w hm=>?_
  refine au 9 ?_
  refine J1 rfl rfl rfl (fun hc=>(J8 (gx hc rfl) (J8 (gx hc rfl) QL))) go100 (fun hc=>(c_cont pe ce evd k _ (he.Jj hm.to) (by omega))) trivial fun w hE hh=>?_
  replace hm:=hm.ext hE
  refine au 3 ?_
  refine cd (fun hc2=>?_) fun hc2=>?_
  ·
   simp only [bA,dT] at hc2
   have hk1:c.k=1:=hc2.1
   have hcs:=dj_to hck9 hk1
   have hs1:=hsr9 hk1
   have hsr0:Q9 (Pl.csrc c.cm)=[.int .i64 c.fr,.int .i64 c.ln]:=by unfold Pl.csrc; rw [LI hc2.1]; rfl
   rw [hsr0] at hm
   have hDl:c.fr.toNat+c.ln.toNat-c.fr.toNat=((old.drop c.fr.toNat).take c.ln.toNat).length:=by rw [Lg,Lm]; omega
   have hlit9:Pl.VW old evd k c.cm=⟨2,c.to,0,0,[(⟨slp po co c.fr.toNat 1,co-c.fr.toNat,((old.drop c.fr.toNat).take c.ln.toNat)⟩:SB)].flatMap (·.bs)⟩:=by unfold Pl.VW; rw [LI hc2]; simp only [Lk,LY,Lq]; rfl
   refine dw [0,3,6,9,12,15,18,21,24,27,30,33,36,39,43,46,2,48,52] hm fun w hw hm0 hh hm=>?_
   refine au 13 ?_
   refine Ja rfl rfl (y_v (JE (ln:=c.fr.toNat) (hn:=(c.fr.toNat+c.ln.toNat)) rfl sl22.h ⟨_,LM (fun x=>some (Value.int .i64 x)) (by omega)⟩ ⟨_,LM (fun x=>some (Value.int .i64 x)) (by omega)⟩ (by omega) (by omega) (fun h=>hos (by omega))) (LM (fun x=>Value.slice (slp po co c.fr.toNat 1) x (co-c.fr.toNat)) hDl)) ?_
   refine Jb (l:=[_]) rfl rfl sl88.h z22.h rfl rfl rfl rfl rfl rfl rfl hm hh fun m3 w hg_m3 hm hh=>?_
   refine ca rfl rfl rfl (Zg c.to _ 1 [(⟨slp po co c.fr.toNat 1,co-c.fr.toNat,((old.drop c.fr.toNat).take c.ln.toNat)⟩:SB)] _ (Rd.JL (hm.get (k:=0) rfl)) (by intro s9 hs9; rw [Lf.1 hs9]; exact ((ho.Jj hm.to).dropB hol.1).takeB _) (by simp) (by simp only [Lk,LY,Lq,Lg,Lm]; omega)) fun v w hR=>?_
   obtain ⟨p_s,n_s,cap_s,g_s,b_s,rfl,ha_s,hmc⟩:=hR
   refine ⟨hh.ext hmc.to,?_⟩
   replace hh:=hh.ext hmc.to
   replace hm:=hm.Jt hmc
   obtain rfl:=ha_s.J0
   refine au 2 ?_
   refine a_storeE rfl rfl rfl rfl sz60 rfl rfl ha_u (by omega) hm 5 rfl fun b_u w ha_u hm=>?_
   replace ha_u:=ha_u.to (upds_fm Jf (by omega) (mkC ⟨2,c.to,0,0,[(⟨slp po co c.fr.toNat 1,co-c.fr.toNat,((old.drop c.fr.toNat).take c.ln.toNat)⟩:SB)].flatMap (·.bs)⟩ p_s cap_s))
   replace hm:=hm.stow 0 rfl
   refine au 7 ?_
   exact next (k+1,zs.set k (mkC ⟨2,c.to,0,0,[(⟨slp po co c.fr.toNat 1,co-c.fr.toNat,((old.drop c.fr.toNat).take c.ln.toNat)⟩:SB)].flatMap (·.bs)⟩ p_s cap_s),b_u,B9++[(g_s,b_s)]) (by simp only; omega) ⟨(hm.Jp [3,4,5,6] 7 rfl),ha_u,by simp only; rw [List.map_set,hzc,litsN_next hcm9,hlit9]; rfl,held_set hH (ha_s.held (by simp)),by simp only; omega⟩ ⟨nx k,rfl,rfl,rfl,rfl,rfl,rfl,rfl,trivial⟩
  ·
   have hlit9:Pl.VW old evd k c.cm=c.cm:=by unfold Pl.VW; rw [LH (fun h=>by simp [h.1,h.2] at hc2)]
   refine au 7 ?_
   exact next (k+1,zs,b_u,B9) (by simp only; omega) ⟨(hm.Jp [2,3,4,5] 6 rfl),ha_u,by simp only; rw [litsN_skip hcm9 hlit9,hzc],hH,by simp only; omega⟩ ⟨nx k,rfl,rfl,rfl,rfl,rfl,rfl,rfl,trivial⟩
 ·
  simp only [dF] at hc1
  have hke:k=cs.length:=by omega
  rw [hke] at hzc
  rw [hzl] at ha_u hm ⊢
  refine au 7 ?_
  refine Ja rfl rfl (Jm (s:=67) (vs:=dlV oo nn H _ _ _) rfl ag26.h (hm.nt 0 rfl) rfl) ?_
  refine st hm 2 fun w hm=>?_
  replace hm:=Xu hm rfl
  refine au 4 ?_
  refine toR (fin Je rfl (.cell rfl (Ju (vs:=dlV oo nn H _ _ _) ag26.h (hm.get (k:=2) rfl) rfl) (.tmp rfl .nil)) .more ?_)
  exact ⟨zs,_,cap_u,g_u,b_u,B9,rfl,ha_u,hzc,hH,(hm.Jp [1] 4 rfl)⟩
theorem idxf_c(p:Option Addr)(cap:Nat)(xs:List CmdV)(fi:FuncId)(l2:List Value)(pred:CmdV→Bool)(w0:World)(hx:Rd w0 p (xs.flatMap JM))(hlen:xs.length≤9223372036854775807)(hg:JH Tryz.prog fi=true)(hf:∀ x w1,x∈xs→Ext No w0 w1→C Tryz.prog fi (.agg ⟨JM x⟩::l2) w1 fun v w2=>v=.bool (pred x)∧Ext No w1 w2):C Tryz.prog 101 [.slice p xs.length cap,.func (.func fi) #[] ⟨l2⟩] w0 fun v w'=>v=.int .i64 (Pl.idx pred xs)∧Ext No w0 w':=by
 refine C_o Tryz.func101 fun κ _ Je Jc hm=>?_
 refine au 14 ?_
 refine Jg (ι:=Nat) rfl (ks:=[0,1,7]) (.cons rfl (.cons rfl (.cons rfl .nil))) (fun k=>[(8,.int .i64 k)]) (fun k w=>Mem w0 w No []∧k≤xs.length∧∀ (j:Nat) y,j<k→xs[j]?=some y→pred y=false) (fun k=>xs.length-k) 0 (⟨hm,LL _,fun _ _ h=>absurd h (Nat.not_lt_zero _)⟩) ⟨rfl,trivial⟩ (fun k w hM=>?_)
 obtain ⟨hm,hk,hno⟩:=hM
 refine au 6 ?_
 refine cd (fun hc0=>?_) fun hc0=>?_
 ·
  simp only [dT] at hc0
  obtain ⟨x,hi⟩:∃ y_,xs[k]?=some y_:=⟨_,La (by omega)⟩
  obtain ⟨qb,qo,rfl⟩:=hx.atI Jf (by decide) hi
  refine au 16 ?_
  refine Ja rfl rfl (JU rfl ag60.h (hx.Jj hm.to).nt Jf hi) ?_
  refine Qf rfl rfl rfl rfl hg (hf x _ (Ld hi) hm.to) fun v w hR=>?_
  obtain ⟨rfl,hE⟩:=hR
  refine ⟨trivial,?_⟩
  replace hm:=hm.ext hE
  refine au 2 ?_
  refine cd (fun hc1=>?_) fun hc1=>?_
  ·
   refine au 13 ?_
   exact ⟨by rw [Pl.X8 hi hc1 hno],hm.to⟩
  ·
   refine au 7 ?_
   refine next (k+1) (by omega) ⟨hm,by omega,fun j y hj hy=>?_⟩ ⟨nx k,rfl,rfl,rfl,trivial⟩
   rcases L7 j k with h | h
   · exact hno j y h hy
   · obtain rfl:j=k:=by omega
     rw [hi] at hy; cases hy; exact hc1
 ·
  have hk:k=xs.length:=by simp at hc0; omega
  subst hk
  refine au 12 ?_
  exact ⟨by rw [Pl.YN hno],hm.to⟩
theorem del_c(p_s:Option Addr)(cap_s:Nat)(xs:List CmdV)(g_s:Nat)(b_s:Blk)(fi:FuncId)(l2:List Value)(pred:CmdV→Bool)(w0:World)(ha_s:Acc 60 5 p_s xs.length cap_s (xs.flatMap JM) g_s b_s)(hb_s:b_s.real=true→w0.heap[g_s]?=some b_s.Jd)(hlen:xs.length≤4611686018427387903)(hg:JH Tryz.prog fi=true)(hf:∀ x w1,Ext (fun k=>k=g_s∧b_s.real=true) w0 w1→C Tryz.prog fi (.agg ⟨JM x⟩::l2) w1 fun v w2=>v=.bool (pred x)∧Ext No w1 w2):C Tryz.prog 67 [.slice p_s xs.length cap_s,.func (.func fi) #[] ⟨l2⟩] w0 fun v w'=>∃ b',v=.slice p_s (xs.filter fun x=>!pred x).length cap_s∧Acc 60 5 p_s (xs.filter fun x=>!pred x).length cap_s ((xs.filter fun x=>!pred x).flatMap JM) g_s b'∧Mem w0 w' (fun k=>k=g_s∧b_s.real=true) [(g_s,b')]:=by
 refine Vk Tryz.func67 rfl rfl rfl fun κ _ Je Jc=>?_
 have hm:=Mem.startB hb_s
 refine au 9 ?_
 refine cA rfl rfl rfl (idxf_c p_s cap_s xs fi l2 pred _ (ha_s.rd hm 0 rfl) (by omega) hg (fun x w1 hx hE=>hf x w1 (hm.to.trans hE.weak))) hm fun w hm=>?_
 refine au 10 ?_
 refine cd (fun hc0=>?_) fun hc0=>?_
 ·
  simp only [dT] at hc0
  have hall:(xs.filter fun x=>!pred x)=xs:=by rcases X9 pred xs with ⟨_,h⟩ | ⟨i,x,h,_⟩; exact h; omega
  refine au 9 ?_
  exact ⟨b_s,by rw [hall],by rw [hall]; exact ha_s,(hm.pick [0] rfl)⟩
 ·
  simp only [dF] at hc0
  obtain ⟨i0,x0,hi0,hx0,hp0,ht0⟩:=(X9 pred xs).resolve_left (fun h=>hc0 h.1)
  have hl0:=(Le.1 hx0).1
  rw [hi0]
  obtain rfl:=ha_s.ptr (by omega)
  have hI0:=DelI.start hx0 hp0 ht0
  refine au 11 ?_
  refine Jg (ι:=Nat×Nat×Blk×List CmdV) rfl (ks:=[0,1,4]) (.cons rfl (.cons rfl (.cons rfl .nil))) (fun x=>[(6,.int .i64 x.1),(5,.int .i64 x.2.1)]) (fun x w=>Mem w0 w (fun k=>k=g_s∧b_s.real=true) [(g_s,x.2.2.1)]∧Acc 60 5 (some ⟨g_s,0,none⟩) xs.length cap_s (x.2.2.2.flatMap JM) g_s x.2.2.1∧DelI pred xs x.1 x.2.1 x.2.2.2) (fun x=>xs.length-x.1) (i0+1,i0,b_s,xs) (⟨(hm.pick [0] rfl),ha_s,hI0⟩) ⟨nx i0,rfl,trivial⟩ (fun x w hM=>?_)
  obtain ⟨hm,ha_s,hI⟩:=hM
  refine au 9 ?_
  refine cd (fun hc1=>?_) fun hc1=>?_
  ·
   simp only [dT] at hc1
   have hzl:=hI.len
   have hlt:=hI.lt
   obtain ⟨e,hi⟩:∃ y_,x.2.2.2[x.1]?=some y_:=⟨_,La (by omega)⟩
   refine au 9 ?_
   refine Ja rfl rfl (JU rfl ag60.h (ha_s.rd hm 0 rfl).nt Jf hi) ?_
   refine aT hm fun m1 w hm=>?_
   refine st hm 0 fun w hm=>?_
   refine au 6 ?_
   refine Qf rfl rfl rfl rfl hg (hf e _ hm.to) fun v w hR=>?_
   obtain ⟨rfl,hE⟩:=hR
   refine ⟨trivial,?_⟩
   replace hm:=hm.ext hE
   refine au 3 ?_
   refine cd (fun hc2=>?_) fun hc2=>?_
   ·
    simp only [bE] at hc2
    refine au 6 ?_
    refine a_storeE rfl rfl rfl rfl sz60 rfl rfl ha_s (by omega) hm 1 rfl fun b_s w ha_s hm=>?_
    replace ha_s:=ha_s.to (upds_fm Jf (by omega) e)
    refine au 14 ?_
    refine next (x.1+1,x.2.1+1,b_s,x.2.2.2.set x.2.1 e) (by simp only; omega) ⟨(hm.pick [1] rfl),ha_s,hI.put hi hc2⟩ ⟨nx x.1,nx x.2.1,rfl,rfl,rfl,trivial⟩
   ·
    simp only [bF] at hc2
    refine au 8 ?_
    refine next (x.1+1,x.2.1,x.2.2.1,x.2.2.2) (by simp only; omega) ⟨(hm.pick [1] rfl),ha_s,hI.skip hi hc2⟩ ⟨nx x.1,rfl,rfl,rfl,rfl,trivial⟩
  ·
   simp only [dF] at hc1
   obtain ⟨hd1,hd2,hd3⟩:=hI.done (by omega)
   refine au 9 ?_
   refine Ja rfl rfl (JE (ln:=x.2.1) (hn:=xs.length) rfl sl24.h ⟨_,rfl⟩ rfl (by omega) (by have:=ha_s.le; omega) (fun _ ad e=>by cases e; rfl)) ?_
   refine a_clearL rfl rfl sl24.h z60.h rfl (by decide) rfl (by omega) ha_s hm 0 rfl fun b_s w ha_s hm=>?_
   refine au 6 ?_
   refine Ja rfl rfl (JE (ln:=0) (hn:=x.2.1) rfl sl24.h rfl ⟨_,rfl⟩ (by omega) (by have:=ha_s.le; omega) (fun _ ad e=>by cases e; rfl)) ?_
   refine au 5 ?_
   exact ⟨b_s,by rw [hd2,XW (fun a e=>by cases e; rfl)]; rfl,by rw [hd2]; exact (ha_s.head hd3).to ((Y1 _ _ _).trans ((take_fm Jf _ _).trans (by rw [hd1]))),(hm.pick [0] rfl)⟩
theorem filt_cm(xs:List CmdV):(xs.filter fun x=>!decide (x.k≠2)).map CmdV.cm=(xs.map CmdV.cm).filter fun c=>decide (c.k=2):=by
 rw [List.filter_map]
 congr 1
 refine List.filter_congr fun x _=>?_
 show (!decide (x.k≠2))=decide (x.cm.k=2)
 have:x.cm.k=x.k:=rfl
 rw [this]
 by_cases h:x.k=2 <;> simp [h]
end Go.Proofs.YtaehgpeenaomcaaGreat
namespace Go.Pl
open Go Go.Cx Go.Proofs.YtaehgpeenaomcaaGreat
def Arr(old:List UInt8)(cs:List CmdV)(ds:List Pl.Cm):Prop:=∃ (E:List (Int×Int)) (evd ord:List Int) (ls:List Pl.Cm),ds=Pl.Xd (cs.map CmdV.cm) ord++ls∧ls.Perm ((Pl.Vj old evd (cs.map CmdV.cm) cs.length).filter fun c=>decide (c.k=2))∧ls.Pairwise (fun a b=>a.to≤b.to) ∧
 (∀ e,e∈E↔Pl.CfE cs cs.length e)∧Pl.Evs E (cs.map CmdV.ln) (Pl.Xa cs cs.length) evd∧Pl.Kahn E (Pl.nsk (Pl.Xa cs cs.length++evd) cs.length) ord []∧evd.Nodup∧∀ v∈evd,0≤v∧v<(cs.length:Int)
end Go.Pl
namespace Go.Proofs.YtaehgpeenaomcaaGreat
open Go Go.Cx
theorem pick_next{cs:List Pl.Cm}{zs:List Int}{k i:Nat}{c:Pl.Cm}(h:zs[k]?=some (i:Int))(hc:cs[i]?=some c):Pl.Xd cs (zs.take (k+1))=Pl.Xd cs (zs.take k)++[c]:=by
 unfold Pl.Xd
 rw [LC,h,List.filterMap_append]
 congr 1
 simp [hc]
theorem sort_to{zs:List CmdV}(h:∀ (i j:Nat) x y,i<j→zs[i]?=some x→zs[j]?=some y→x.to≤y.to):(zs.map CmdV.cm).Pairwise (fun a b=>a.to≤b.to):=by
 rw [List.pairwise_map,List.pairwise_iff_getElem]
 intro i j hi hj hij
 exact h i j _ _ hij (La hi) (La hj)
end Go.Proofs.YtaehgpeenaomcaaGreat
namespace Go.Cx
open Go Go.Cx Go.Proofs.YtaehgpeenaomcaaGreat
theorem Mem.callT3b{w0 w w':World}{X:Bs}{L N2:List (Nat×Blk)}{q:Nat×Blk}(h:Mem w0 w X L)(hc:Mem w w' No (q::N2)):Mem w0 w' X (q::(L++N2)):=h.VZ hc
end Go.Cx
namespace Go.Proofs.YtaehgpeenaomcaaGreat
open Go Go.Cx
theorem v_arr1(c:CmdV)(w0:World):C Tryz.prog 68 [.agg ⟨JM c⟩] w0 fun v w'=>v=.bool (decide (c.k≠2))∧Ext No w0 w':=by
 refine C_o Tryz.func68 fun κ _ Je Jc hm=>?_
 refine au 2 ?_
 refine bT hm fun m1 w hm=>?_
 refine au 13 ?_
 exact ⟨rfl,hm.to⟩
theorem v_arrange(po:Option Addr)(co:Nat)(old:List UInt8)(q:Option Addr)(cq:Nat)(cs:List CmdV)(w0:World)(ho:Rd w0 po (old.flatMap Jk))(hol:old.length≤co∧old.length≤1000000)(hos:co≠0→∀ ad,po=some ad→ad.spot=none)(hq:Rd w0 q (cs.flatMap JM))(hl:cs.length≤40)(hok:∀ c∈cs,Q1 w0 c)(hbl:∀ c∈cs,c.d.bs.length≤140737488355328)(hck:∀ c∈cs,Pl.ccheck c.cm=0)(hd:(cs.map Pl.tgE).Pairwise Pl.dj2)(hsr:∀ c∈cs,c.k=1→c.fr+c.ln≤old.length):C Tryz.prog 44 [.slice po old.length co,.slice q cs.length cq] w0 fun v w'=>∃ (ds:List CmdV) (p:Option Addr) (n cap g:Nat) (b:Blk) (B:List (Nat×Blk)),v=.slice p n cap∧Acc 60 5 p n cap (ds.flatMap JM) g b∧Pl.Arr old cs (ds.map CmdV.cm)∧(∀ y∈ds,Held B 5 y.d)∧ds.length≤80∧Mem w0 w' No ((g,b)::B):=by
 refine C_o Tryz.func44 fun κ _ Je Jc hm=>?_
 refine au 8 ?_
 refine cT rfl rfl rfl (v_of q cq cs _ (hq.Jj hm.to) hl hck hd) fun v w hR=>?_
 obtain ⟨mh,p_e,c_e,g_e,b_e,evd,p_r,c_r,g_r,b_r,ord,E,rfl,ha_e,ha_r,hcf,hev,hkn,hend,hein,hmc⟩:=hR
 replace hm:=hm.Jt hmc
 have hevl:evd.length≤cs.length:=by have:=Pl.VE (m:=Pl.ids cs.length) hend (fun v hv=>Pl.XK.2 (hein v hv)); rwa [Pl.Qj] at this
 have horl:ord.length≤cs.length:=by have:=Pl.VE (m:=Pl.ids cs.length) hkn.nd (fun v hv=>Pl.XK.2 (by have:=Pl.Vh.1 ((hkn.part v).2 (.inl hv)); omega)); rwa [Pl.Qj] at this
 refine aT hm fun mc w hm=>?_
 refine st hm 0 fun w hm=>?_
 refine au 5 ?_
 replace hm:=hm.JP
 have ha_o:=Acc.nil 60 5 none 0
 refine au 12 ?_
 refine Jg (ι:=Nat×Ow×List CmdV×List (Nat×Blk)) rfl (ks:=[0,1,4,5,15,16]) (.cons rfl (.cons rfl (.cons rfl (.cons rfl (.cons rfl (.cons rfl .nil)))))) (fun x=>[(17,.int .i64 (x.1:Int)),(6,.slice x.2.1.p x.2.1.n x.2.1.cap)]) (fun x w=>Mem w0 w No ((x.2.1.g,x.2.1.b)::(mc,.row 136 [.slice q cs.length cq,.pointer (some ⟨mh,0,none⟩),.slice p_e evd.length c_e,.slice p_r ord.length c_r])::(g_e,b_e)::(g_r,b_r)::x.2.2.2)∧Acc 60 5 x.2.1.p x.2.1.n x.2.1.cap (x.2.2.1.flatMap JM) x.2.1.g x.2.1.b∧x.2.2.1.map CmdV.cm=Pl.Xd (cs.map CmdV.cm) (ord.take x.1)∧(∀ y∈x.2.2.1,Held x.2.2.2 5 y.d)∧x.1≤ord.length∧x.2.2.1.length=x.1) (fun x=>ord.length-x.1) (0,⟨none,0,0,0,.gap⟩,[],[]) (⟨(hm.pick [0,1,2,3] rfl),ha_o,rfl,by simp,LL _,rfl⟩) ⟨rfl,rfl,trivial⟩ (fun x w hM=>?_)
 obtain ⟨k,⟨p_o,n_o,cap_o,g_o,b_o⟩,ds,B9⟩:=x
 obtain ⟨hm,ha_o,hdc,hH,hk,hdl⟩:=hM
 simp only at hm ha_o hdc hH hk hdl ⊢
 obtain rfl:=ha_o.QB Jf (by decide)
 refine au 6 ?_
 refine cd (fun hc0=>?_) fun hc0=>?_
 ·
  simp only [dT] at hc0
  obtain ⟨z,hi2⟩:∃ y_,ord[k]?=some y_:=⟨_,La (by omega)⟩
  obtain ⟨qb,qo,rfl⟩:=(ha_r.rd hm 3 rfl).atI Jq (by decide) hi2
  have hzn:=Pl.Vh.1 ((hkn.part z).2 (.inl (Ld hi2)))
  obtain ⟨iz,rfl⟩:∃ i:Nat,z=(i:Int):=⟨z.toNat,by omega⟩
  obtain ⟨c,hi⟩:∃ y_,cs[iz]?=some y_:=⟨_,La (by omega)⟩
  obtain ⟨qb2,qo2,rfl⟩:=hq.atI Jf (by decide) hi
  have hcm9:(cs.map CmdV.cm)[iz]?=some c.cm:=by rw [Lt,hi]; rfl
  have hokc:=hok c (Ld hi)
  have hbc:=hbl c (Ld hi)
  refine au 7 ?_
  refine Ja rfl rfl (J3 rfl sc3.h (ha_r.rd hm 3 rfl).nt Jq hi2 rfl) ?_
  refine au 8 ?_
  refine Ja rfl rfl (JU rfl ag60.h (hq.Jj hm.to).nt Jf hi) ?_
  refine cT rfl rfl rfl (c_clone c.cm c.d.p c.d.cap _ (hokc.2.2.2.2.rd.Jj hm.to) hbc) fun v w hR=>?_
  obtain ⟨p_s,n_s,cap_s,g_s,b_s,rfl,ha_s,hmc⟩:=hR
  replace hm:=hm.Jt hmc
  obtain rfl:=ha_s.J0
  refine Jb (l:=[_,_,_,_,_]) rfl rfl sl24.h z60.h rfl rfl rfl rfl rfl rfl rfl hm trivial fun m1 w hg_m1 hm hh=>?_
  refine Jy rfl rfl rfl rfl rfl rfl sl24.h sl24.h z60.h rfl rfl (Rd.JL (hm.get (k:=0) rfl)) rfl ha_o hm 2 rfl (by omega) (by omega) fun p_o cap_o g_o b_o w ha_o hm=>?_
  replace hm:=hm.stow 1 rfl
  refine au 8 ?_
  exact next (k+1,⟨p_o,_,cap_o,g_o,b_o⟩,ds++[mkC c.cm p_s cap_s],B9++[(g_s,b_s)]) (by simp only; omega) ⟨(hm.Jp [1,2,3,4] 5 rfl),ha_o.to (by simp only [Lh,Lk,LY,Lq]; rfl),by simp only; rw [Lx,hdc,pick_next hi2 hcm9]; rfl,heldAdd hH (ha_s.held (by simp)),by simp only; omega,by simp only [Lc,LG]; omega⟩ ⟨nx k,rfl,rfl,rfl,rfl,rfl,rfl,rfl,trivial⟩
 ·
  simp only [dF] at hc0
  have hke:k=ord.length:=by omega
  rw [hke,Lv] at hdc
  refine au 11 ?_
  refine Ja rfl rfl (y_buildK (cs:=dlV (old.length:Int) 0 (fun _=>0) q cs.length cq) z26.h ft26.h rfl rfl rfl (by kernel_rfl) (by kernel_rfl)) ?_
  refine au 2 ?_
  have hcon:=t_lits old.length 0 (fun _=>0) po co old q cq cs p_e c_e evd _ (ho.Jj hm.to) hol hos (hq.Jj hm.to) (by omega) (fun c hc=>Q1.mono (hok c hc) hm.to) hbl hck hsr (ha_e.rd hm 2 rfl) (by omega) rfl
  refine cT rfl rfl rfl hcon fun v w hR=>?_
  obtain ⟨ys,p_u,cap_u,g_u,b_u,B_u,rfl,ha_u,hyc,hyh,hmc⟩:=hR
  replace hm:=hm.callT3b hmc
  have hyl:ys.length=cs.length:=by have:=LM List.length hyc; unfold Pl.Vj at this; simpa using this
  refine au 3 ?_
  refine aT hm fun m9 w hm=>?_
  refine st hm 0 fun w hm=>?_
  replace hm:=Xu hm rfl
  refine au 7 ?_
  refine cT rfl rfl rfl (del_c p_u cap_u ys g_u b_u 68 [] (fun x=>decide (x.k≠2)) _ ha_u (fun h9=>hm.getR (k:=1) rfl h9) (by omega) go68 (fun x w9 _=>v_arr1 x w9)) fun v w hR=>?_
  obtain ⟨b_u,rfl,ha_u,hmc⟩:=hR
  replace hm:=hm.callB 1 rfl hmc
  have hfl:=List.length_filter_le (fun x:CmdV=>!decide (x.k≠2)) ys
  refine au 6 ?_
  refine cT rfl rfl rfl (sort_c p_u g_u cap_u b_u (ys.filter fun x=>!decide (x.k≠2)) _ ha_u (fun h9=>hm.getR (k:=1) rfl h9) (by omega)) fun v w hR=>?_
  obtain ⟨rfl,zs,b_u,hzp,hzs,ha_u,hsr9⟩:=hR
  replace hm:=hm.callS 1 rfl hsr9
  have hzl:=hzp.length_eq
  refine au 6 ?_
  refine Jy rfl rfl rfl rfl rfl rfl sl24.h sl24.h z60.h rfl (oneC zs) (ha_u.rd hm 1 rfl) (by rw [lenC,hzl]) ha_o hm 2 rfl (by omega) (by omega) fun p_o cap_o g_o b_o w ha_o hm=>?_
  refine au 5 ?_
  refine ⟨ds++zs,p_o,_,cap_o,g_o,b_o,B9++B_u,rfl,ha_o.to (by rw [Lh]),⟨E,evd,ord,zs.map CmdV.cm,by rw [Lx,hdc],?_,sort_to hzs,hcf,hev,hkn,hend,hein⟩,fun y hy=>?_,by rw [Lc]; omega,(hm.Jp [2] 6 rfl)⟩
  · have h9:=hzp.map CmdV.cm
    rw [filt_cm,hyc] at h9
    exact h9
  · rcases Ls.1 hy with hy | hy
    · exact (hH y hy).mono fun e he=>Lw _ he
    · exact (hyh y (L5.1 (hzp.mem_iff.1 hy)).1).mono fun e he=>Ly _ he
theorem dj_symm{a b:Pl.Cm}(h:Pl.dj a b):Pl.dj b a:=Or.symm h
theorem vd_pw{o n:Int}{cs:List Pl.Cm}(h:Pl.VD o n cs):cs.Pairwise Pl.dj:=by
 rw [List.pairwise_iff_getElem]
 intro i j hi hj hij
 exact dj_symm (h.dis j i _ _ hij (La hj) (La hi))
theorem vd_mk{o n:Int}{cs:List Pl.Cm}(hl:0≤o∧0≤n∧o≤4611686018427387903∧n≤4611686018427387903)(h1:∀ c∈cs,Pl.single o n c=0)(h2:cs.Pairwise Pl.dj)(h3:∀ x:Int,0≤x→x<n→∃ c∈cs,Pl.hasB c x=true):Pl.VD o n cs:=
 ⟨hl,h1,fun i j ci cj hij hi hj=>by
  obtain ⟨hi1,hi2⟩:=Le.1 hi
  obtain ⟨hj1,hj2⟩:=Le.1 hj
  have:=(List.pairwise_iff_getElem.1 h2) j i hj1 hi1 hij
  rw [hi2,hj2] at this
  exact dj_symm this,h3⟩
theorem vd_perm{o n:Int}{cs ds:List Pl.Cm}(h:Pl.VD o n cs)(hp:ds.Perm cs):Pl.VD o n ds:=
 vd_mk h.lens (fun c hc=>h.one c (hp.mem_iff.1 hc)) (hp.symm.pairwise (vd_pw h) fun h=>dj_symm h) fun x h1 h2=>by
  obtain ⟨c,hc,hx⟩:=h.cov x h1 h2
  exact ⟨c,hp.mem_iff.2 hc,hx⟩
theorem lit1_ok{o n:Int}{f:List UInt8}{evd:List Int}{i:Nat}{c:Pl.Cm}(ho:o=f.length)(h:Pl.single o n c=0):(Pl.VW f evd i c).to=c.to∧Pl.clen (Pl.VW f evd i c)=Pl.clen c∧Pl.cbs f (Pl.VW f evd i c)=Pl.cbs f c∧Pl.single o n (Pl.VW f evd i c)=0:=by
 obtain ⟨h1,h2,h3⟩:=Pl.Jw h
 have hk:=Pl.Jl h1
 unfold Pl.VW
 by_cases hc:c.k=1∧(i:Int)∈evd
 · rw [LI hc]
   have hs:=h2 hc.1
   have hln:((List.take c.ln.toNat (List.drop c.fr.toNat f)).length:Int)=Pl.clen c:=by
    rw [Lg,Lm]
    unfold Pl.clen
    rw [LI hc.1]
    omega
   have hcl:Pl.clen ⟨2,c.to,0,0,List.take c.ln.toNat (List.drop c.fr.toNat f)⟩=Pl.clen c:=by
    unfold Pl.clen at *
    rw [LH (by simp)]
    exact hln
   refine ⟨rfl,hcl,?_,?_⟩
   · unfold Pl.cbs
     rw [LH (by simp),LI hc.1]
   · have hck:Pl.ccheck ⟨2,c.to,0,0,List.take c.ln.toNat (List.drop c.fr.toNat f)⟩=0:=by
      unfold Pl.ccheck
      rw [hcl]
      have hv:=Pl.YB (o:=c.to) (l:=Pl.clen c) (by omega)
      simp only [hv]
      rw [LH (by simp),LH (by omega),LH (by simp),LH (by simp),LH (by simp)]
     unfold Pl.single
     rw [LH (by rw [hck]; simp),LH (fun h=>by simp at h),LH (by rw [hcl]; show ¬ n<c.to+Pl.clen c; omega)]
 · rw [LH hc]; exact ⟨rfl,rfl,rfl,h⟩
theorem Za{f:List UInt8}{evd:List Int}{cs:List Pl.Cm}{i:Nat}:(Pl.Vj f evd cs cs.length)[i]?=(cs[i]?).map (Pl.VW f evd i):=by
 unfold Pl.Vj
 rw [List.getElem?_mapIdx]
 cases h:cs[i]? with
 | none=>rfl
 | some c=>simp only [Option.map_some]; rw [LI (Le.1 h).1]
theorem litsN_len(f:List UInt8)(evd:List Int)(cs:List Pl.Cm)(k:Nat):(Pl.Vj f evd cs k).length=cs.length:=by unfold Pl.Vj; exact List.length_mapIdx
theorem vd_lits{o n:Int}{f:List UInt8}{evd:List Int}{cs:List Pl.Cm}(ho:o=f.length)(h:Pl.VD o n cs):Pl.VD o n (Pl.Vj f evd cs cs.length):=by
 have hg:∀ {i:Nat} {d:Pl.Cm},(Pl.Vj f evd cs cs.length)[i]?=some d→∃ c,cs[i]?=some c∧d=Pl.VW f evd i c:=by
  intro i d hd
  rw [Za] at hd
  obtain ⟨c,hc,rfl⟩:=Option.map_eq_some_iff.1 hd
  exact ⟨c,hc,rfl⟩
 refine ⟨h.lens,fun d hd=>?_,fun i j ci cj hij hi hj=>?_,fun x h1 h2=>?_⟩
 · obtain ⟨i,hi,rfl⟩:=LU hd
   obtain ⟨c,hc,hd⟩:=hg (La hi)
   rw [hd]
   exact (lit1_ok ho (h.one c (Ld hc))).2.2.2
 · obtain ⟨a,ha,rfl⟩:=hg hi
   obtain ⟨b,hb,rfl⟩:=hg hj
   have h1:=lit1_ok (f:=f) (evd:=evd) (i:=i) ho (h.one a (Ld ha))
   have h2:=lit1_ok (f:=f) (evd:=evd) (i:=j) ho (h.one b (Ld hb))
   have:=h.dis i j a b hij ha hb
   unfold Pl.dj at *
   rw [h1.1,h1.2.1,h2.1,h2.2.1]
   exact this
 · obtain ⟨c,hc,hx⟩:=h.cov x h1 h2
   obtain ⟨i,hi,rfl⟩:=LU hc
   refine ⟨Pl.VW f evd i cs[i],Ld (i:=i) (by rw [Za,La hi]; rfl),?_⟩
   have h1:=lit1_ok (f:=f) (evd:=evd) (i:=i) ho (h.one cs[i] hc)
   rw [Pl.Qm] at hx ⊢
   rw [h1.1,h1.2.1]
   exact hx
theorem apl_same{o n:Int}{f:List UInt8}{cs ds:List Pl.Cm}(ho:o=f.length)(h:Pl.VD o n cs)(h':Pl.VD o n ds)(hs:∀ c∈cs,∃ d∈ds,d.to=c.to∧Pl.clen d=Pl.clen c∧Pl.cbs f d=Pl.cbs f c):Pl.apl f ds n.toNat=Pl.apl f cs n.toNat:=by
 unfold Pl.apl
 refine List.map_congr_left fun i hi=>?_
 rw [List.mem_range] at hi
 obtain ⟨c,hc,hx⟩:=h.cov i (by omega) (by omega)
 obtain ⟨d,hd,h1,h2,h3⟩:=hs c hc
 rw [Pl.Qm] at hx
 obtain ⟨j,hj⟩:∃ j:Nat,(i:Int)=c.to+j:=⟨((i:Int)-c.to).toNat,by omega⟩
 have hl:=Pl.ZH ho (h.one c hc)
 obtain ⟨b,hb⟩:∃ b,(Pl.cbs f c)[j]?=some b:=⟨_,La (by omega)⟩
 obtain ⟨kc,hkc,rfl⟩:=LU hc
 obtain ⟨kd,hkd,rfl⟩:=LU hd
 have e1:=Pl.apB_at h ho (La hkc) hb
 have e2:=Pl.apB_at h' ho (La hkd) (j:=j) (b:=b) (by rw [h3]; exact hb)
 rw [h1] at e2
 rw [show (cs[kc].to+(j:Int)).toNat=i by omega] at e1 e2
 rw [e1,e2]
theorem pick_filt{α:Type}{g:Int→Option α}{g':Int→Option α}{p:α→Bool}{q:Int→Bool}:∀ {l:List Int},(∀ z∈l,q z=true→∀ c,g z=some c→g' z=some c∧p c=true)→(∀ z∈l,q z=false→∀ c,g' z=some c→p c=false)→(∀ z∈l,(g z).isSome=true)→(l.filter q).filterMap g=(l.filterMap g').filter p
 | [],_,_,_=>rfl
 | z::r,h1,h2,h3=>by
  have ih:=pick_filt (l:=r) (fun y hy=>h1 y (LX _ hy)) (fun y hy=>h2 y (LX _ hy)) (fun y hy=>h3 y (LX _ hy))
  obtain ⟨c,hc⟩:=Option.isSome_iff_exists.1 (h3 z (Lo ..))
  cases hq:q z with
  | true=>
   obtain ⟨h4,h5⟩:=h1 z (Lo ..) hq c hc
   rw [List.filter_cons,LI hq,List.filterMap_cons,hc,List.filterMap_cons,h4]
   simp only
   rw [List.filter_cons,LI h5,ih]
  | false=>
   rw [List.filter_cons,LH (by rw [hq]; simp),List.filterMap_cons]
   cases hg:g' z with
   | none=>exact ih
   | some d=>
    simp only
    rw [List.filter_cons,LH (by rw [h2 z (Lo ..) hq d hg]; simp),ih]
theorem evs_not_lit{cs:List CmdV}{E:List (Int×Int)}{ws:List Int}(hE:∀ e,e∈E↔Pl.CfE cs cs.length e){out:List Int}(h:Pl.Evs E ws (Pl.Xa cs cs.length) out):∀ v∈out,v∉Pl.Xa cs cs.length:=by
 induction h with
 | nil=>simp
 | step _ hl hp ih=>
  intro v hv
  rcases Ls.1 hv with hv | hv
  · exact ih v hv
  · rw [Lf.1 hv]
    have:=(L5.1 (small_mem (key:=Pl.wt ws) hp)).2
    simpa using this
theorem arr_perm{o n:Int}{f:List UInt8}{cs:List CmdV}{ds:List Pl.Cm}(h:Pl.VD o n (cs.map CmdV.cm))(ha:Pl.Arr f cs ds):∃ evd,ds.Perm (Pl.Vj f evd (cs.map CmdV.cm) cs.length):=by
 obtain ⟨E,evd,ord,ls,rfl,hp,-,hE,hev,hkn,-,hrg⟩:=ha
 refine ⟨evd,?_⟩
 have hnl:=evs_not_lit hE hev
 have hop:ord.Perm (Pl.nsk (Pl.Xa cs cs.length++evd) cs.length):=by
  refine (List.perm_ext_iff_of_nodup hkn.nd ?_).2 fun v=>by rw [hkn.part v]; simp
  unfold Pl.nsk
  exact ((Pl.ids_lt cs.length).imp fun h e=>by omega:(Pl.ids cs.length).Nodup).filter _
 have h1:(Pl.Xd (cs.map CmdV.cm) ord).Perm ((Pl.Vj f evd (cs.map CmdV.cm) cs.length).filter fun c=>!decide (c.k=2)):=by
  refine (hop.filterMap _).trans (List.Perm.of_eq ?_)
  have hlit:Pl.Vj f evd (cs.map CmdV.cm) cs.length=(Pl.ids cs.length).filterMap fun z=>((cs.map CmdV.cm)[z.toNat]?).map (Pl.VW f evd z.toNat):=by
   refine Kb fun i=>?_
   have hl9:cs.length=(cs.map CmdV.cm).length:=(Lj _).symm
   rw [hl9,Za]
   have key:∀ k:Nat,k≤(cs.map CmdV.cm).length→((Pl.ids k).filterMap fun z=>((cs.map CmdV.cm)[z.toNat]?).map (Pl.VW f evd z.toNat))=(List.range k).filterMap fun i=>((cs.map CmdV.cm)[i]?).map (Pl.VW f evd i):=by
    intro k _
    unfold Pl.ids
    rw [List.filterMap_map]
    rfl
   rw [key _ (LP _)]
   have key2:∀ k:Nat,k≤(cs.map CmdV.cm).length→∀ i,((List.range k).filterMap fun i=>((cs.map CmdV.cm)[i]?).map (Pl.VW f evd i))[i]?=if i<k then ((cs.map CmdV.cm)[i]?).map (Pl.VW f evd i) else none:=by
    intro k
    induction k with
    | zero=>intro _ i; simp
    | succ k ih=>
     intro hk i
     have hlen:((List.range k).filterMap fun i=>((cs.map CmdV.cm)[i]?).map (Pl.VW f evd i)).length=k:=by
      have h7:=ih (by omega)
      have ha:∀ j,j<k→(((List.range k).filterMap fun i=>((cs.map CmdV.cm)[i]?).map (Pl.VW f evd i))[j]?).isSome=true:=fun j hj=>by
       rw [h7 j,LI hj,La (by omega)]; rfl
      have hb:((List.range k).filterMap fun i=>((cs.map CmdV.cm)[i]?).map (Pl.VW f evd i))[k]?=none:=by rw [h7 k,LH (Nat.lt_irrefl _)]
      have hb':=List.getElem?_eq_none_iff.1 hb
      rcases L7 ((List.range k).filterMap fun i=>((cs.map CmdV.cm)[i]?).map (Pl.VW f evd i)).length k with h8 | h8
      · have:=ha _ h8
        rw [L8 (LP _)] at this
        cases this
      · omega
     rw [List.range_succ,List.filterMap_append]
     rcases Nat.lt_trichotomy i k with hi | rfl | hi
     · rw [L3 (by omega),ih (by omega) i,LI hi,LI (by omega)]
     · rw [L6 (by omega),hlen,Nat.sub_self,LI (by omega)]
       simp only [List.filterMap_cons,List.filterMap_nil]
       rw [La (show i<(cs.map CmdV.cm).length by omega)]
       rfl
     · rw [L6 (by omega),hlen,LH (by omega)]
       simp only [List.filterMap_cons,List.filterMap_nil]
       rw [La (show k<(cs.map CmdV.cm).length by omega)]
       simp only [Option.map_some]
       exact L8 (by simp; omega)
   rw [key2 _ (LP _)]
   by_cases hi:i<(cs.map CmdV.cm).length
   · rw [LI hi]
   · rw [LH hi,L8 (by omega)]; rfl
  rw [hlit]
  unfold Pl.nsk
  refine pick_filt (fun z hz hq c hc=>?_) (fun z hz hq c hc=>?_) fun z hz=>?_
  · have hzr:=Pl.XK.1 hz
    simp only [dT,Ls,not_or] at hq
    have hck:=Pl.Jl (Pl.Jw (h.one c (Ld hc))).1
    have hk:c.k≠2:=fun h2=>hq.1 (litN_mem.2 ⟨hzr.1,hzr.2,by rw [Lt] at hc; obtain ⟨x,hx,rfl⟩:=Option.map_eq_some_iff.1 hc; rw [hx]; exact LM some h2⟩)
    refine ⟨?_,by simp [hk]⟩
    rw [hc]
    simp only [Option.map_some]
    unfold Pl.VW
    rw [LH fun h9=>hq.2 (by have:=h9.2; rwa [show ((z.toNat:Nat):Int)=z by omega] at this)]
  · have hzr:=Pl.XK.1 hz
    obtain ⟨x,hx,rfl⟩:=Option.map_eq_some_iff.1 hc
    simp only [dF,Classical.not_not,Ls] at hq
    rcases hq with hq | hq
    · have h2:=(litN_mem.1 hq).2.2
      rw [Lt] at hx
      obtain ⟨y,hy,rfl⟩:=Option.map_eq_some_iff.1 hx
      rw [hy] at h2
      have h3:y.cm.k=2:=by
       have h9:y.k=2:=by simpa using h2
       exact h9
      unfold Pl.VW
      rw [LH fun h9=>by have:=h9.1; omega]
      simp [h3]
    · have hck:=Pl.Jl (Pl.Jw (h.one x (Ld hx))).1
      have hn2:=hnl z hq
      have hk1:x.k=1:=by
       rcases hck.1 with h9 | h9
       · exact h9.1
       · exfalso
         refine hn2 (litN_mem.2 ⟨hzr.1,hzr.2,?_⟩)
         rw [Lt] at hx
         obtain ⟨y,hy,rfl⟩:=Option.map_eq_some_iff.1 hx
         rw [hy]
         exact LM some h9.1
      unfold Pl.VW
      rw [LI ⟨hk1,by rw [show ((z.toNat:Nat):Int)=z by omega]; exact hq⟩]
      rfl
  · have hzr:=Pl.XK.1 hz
    rw [La (by rw [Lj]; omega)]
    rfl
 refine (h1.append hp).trans ?_
 refine List.perm_append_comm.trans ?_
 exact List.filter_append_perm (fun c:Pl.Cm=>decide (c.k=2)) _
theorem pick_get{cms:List Pl.Cm}:∀ {ord:List Int},(∀ z∈ord,(cms[z.toNat]?).isSome=true)→∀ i:Nat,(Pl.Xd cms ord)[i]?=(ord[i]?).bind fun z:Int=>cms[z.toNat]?
 | [],_,i=>by simp [Pl.Xd]
 | z::r,h,i=>by
  obtain ⟨c,hc⟩:=Option.isSome_iff_exists.1 (h z (Lo ..))
  have ih:=pick_get (ord:=r) fun y hy=>h y (LX _ hy)
  unfold Pl.Xd at *
  rw [List.filterMap_cons,hc]
  cases i with
  | zero=>simp [hc]
  | succ i=>simp only [LW]; exact ih i
theorem arr_safe{o n:Int}{f:List UInt8}{cs:List CmdV}{ds:List Pl.Cm}(h:Pl.VD o n (cs.map CmdV.cm))(ha:Pl.Arr f cs ds):Pl.Safe ds:=by
 obtain ⟨E,evd,ord,ls,rfl,hp,-,hE,hev,hkn,-,hrg⟩:=ha
 intro i j ci cj hij hi hj hr
 have hk:ci.k=1:=by
  unfold Pl.rds at hr
  by_cases hk:ci.k=1
  · exact hk
  · rw [LI hk] at hr; omega
 have hor:∀ z∈ord,((cs.map CmdV.cm)[z.toNat]?).isSome=true:=fun z hz=>by
  have:=Pl.Vh.1 ((hkn.part z).2 (.inl hz))
  rw [La (by rw [Lj]; omega)]
  rfl
 have hil:i<(Pl.Xd (cs.map CmdV.cm) ord).length:=by
  rcases L7 i (Pl.Xd (cs.map CmdV.cm) ord).length with hlt | hge
  · exact hlt
  · exfalso
    rw [L6 hge] at hi
    have:=(L5.1 (hp.mem_iff.1 (Ld hi))).2
    simp only [dT] at this
    omega
 rw [L3 hil,pick_get hor] at hi
 rw [L3 (by omega),pick_get hor] at hj
 obtain ⟨zi,hzi,hci⟩:=Option.bind_eq_some_iff.1 hi
 obtain ⟨zj,hzj,hcj⟩:=Option.bind_eq_some_iff.1 hj
 rw [Lt] at hci hcj
 obtain ⟨a,haa,rfl⟩:=Option.map_eq_some_iff.1 hci
 obtain ⟨b,hbb,rfl⟩:=Option.map_eq_some_iff.1 hcj
 have hri:=Pl.Vh.1 ((hkn.part zi).2 (.inl (Ld hzi)))
 have hrj:=Pl.Vh.1 ((hkn.part zj).2 (.inl (Ld hzj)))
 obtain ⟨hi1,hi2⟩:=Le.1 hzi
 obtain ⟨hj1,hj2⟩:=Le.1 hzj
 have hne:zi≠zj:=fun e=>by
  have:=(List.pairwise_iff_getElem.1 hkn.nd) j i hj1 hi1 hij
  exact this (by rw [hi2,hj2,e])
 have hcf:Pl.cf a b=true:=by
  unfold Pl.rds at hr
  rw [LH (by rw [hk]; simp),Pl.ovl_len] at hr
  unfold Pl.cf
  have hk':a.k=1:=hk
  have e1:a.cm.fr=a.fr:=rfl
  have e2:a.cm.ln=a.ln:=rfl
  have e3:b.cm.to=b.to:=rfl
  rw [LQ hk',Bool.true_and,ovl_iff]
  omega
 have hEe:(zi,zj)∈E:=(hE _).2 ⟨zi.toNat,zj.toNat,a,b,by rw [show ((zi.toNat:Nat):Int)=zi by omega,show ((zj.toNat:Nat):Int)=zj by omega],by omega,by omega,haa,hbb,hcf⟩
 have ht:=hkn.topo j zj hzj zi (Pl.Zc.2 hEe) ((hkn.part zi).2 (.inl (Ld hzi)))
 obtain ⟨k,hk1,hk2⟩:=LU ht
 rw [Lg] at hk1
 rw [List.getElem_take] at hk2
 have:=(List.pairwise_iff_getElem.1 hkn.nd) k i (by omega) hi1 (by omega)
 exact this (by rw [hk2,hi2])
theorem safe_hsf{ds:List CmdV}(h:Pl.Safe (ds.map CmdV.cm)):∀ i c,ds[i]?=some c→(decide (c.k=1)&&((ds.take i).map Pl.tgE).any fun e=>(Pl.overlap (Pl.csrc c.cm).1 (Pl.csrc c.cm).2 e.1 e.2).isSome)=false:=fun i c hi=>by
 rw [Bool.and_eq_false_imp]
 intro hk
 simp only [dT] at hk
 rw [List.any_eq_false]
 intro e he ho
 obtain ⟨d,hd,rfl⟩:=Ln.1 he
 obtain ⟨j,hj,rfl⟩:=LU hd
 rw [Lg] at hj
 rw [List.getElem_take] at ho
 refine h i j c.cm ds[j].cm (by omega) (by rw [Lt,hi]; rfl) (by rw [Lt,La (by omega)]; rfl) ?_
 have hk':c.cm.k=1:=hk
 unfold Pl.rds
 rw [LH (by rw [hk']; simp),Pl.ovl_len]
 rw [ovl_iff] at ho
 unfold Pl.csrc at ho
 rw [LI hk'] at ho
 exact ho
theorem arr_vd{o n:Int}{f:List UInt8}{cs:List CmdV}{ds:List Pl.Cm}(ho:o=f.length)(h:Pl.VD o n (cs.map CmdV.cm))(ha:Pl.Arr f cs ds):Pl.VD o n ds∧Pl.apl f ds n.toNat=Pl.apl f (cs.map CmdV.cm) n.toNat∧ds.length=cs.length:=by
 obtain ⟨evd,hp⟩:=arr_perm h ha
 have hl:(cs.map CmdV.cm).length=cs.length:=Lj _
 rw [← hl] at hp
 have h1:=vd_lits (f:=f) (evd:=evd) ho h
 have h2:=vd_perm h1 hp
 refine ⟨h2,apl_same ho h h2 fun c hc=>?_,by rw [hp.length_eq,litsN_len,hl]⟩
 obtain ⟨i,hi,rfl⟩:=LU hc
 have h3:=lit1_ok (f:=f) (evd:=evd) (i:=i) ho (h.one _ hc)
 exact ⟨_,hp.mem_iff.2 (Ld (i:=i) (by rw [Za,La hi]; rfl)),h3.1,h3.2.1,h3.2.2.1⟩
theorem v_convert(oo nn:Int)(q:Option Addr)(cq:Nat)(cs:List CmdV)(w0:World)(hq:Rd w0 q (cs.flatMap JM))(hl:cs.length≤20)(hok:∀ c∈cs,Q1 w0 c)(hbl:∀ c∈cs,c.d.bs.length≤140737488355328)(hv:Pl.VD oo nn (cs.map CmdV.cm))(r:Option Addr)(cr:Nat)(f:List UInt8)(hf:Rd w0 r (f.flatMap Jk))(hfl:f.length≤cr∧f.length≤1000000)(hfs:cr≠0→∀ ad,r=some ad→ad.spot=none)(ho:oo=f.length)(hn:nn≤1000000):C Tryz.prog 22 [.slice r f.length cr,.agg ⟨dlV oo nn (Pl.hh (Pl.sha f) (Pl.sha (Pl.apl f (cs.map CmdV.cm) nn.toNat))) q cs.length cq⟩] w0 fun v w'=>∃ (ds:List CmdV) (p:Option Addr) (n cap g:Nat) (b:Blk) (B:List (Nat×Blk)),v=.tuple ⟨[.agg ⟨dlV oo nn (Pl.hh (Pl.sha f) (Pl.sha (Pl.apl f (cs.map CmdV.cm) nn.toNat))) p n cap⟩,.agg ⟨[.int .i64 0,.int .i64 0]⟩]⟩∧Acc 60 5 p n cap (ds.flatMap JM) g b∧Pl.Arr f cs (ds.map CmdV.cm)∧(∀ y∈ds,Held B 5 y.d)∧Mem w0 w' No ((g,b)::B):=by
 have hck:∀ c∈cs,Pl.ccheck c.cm=0:=fun c hc=>(Pl.Jw (hv.one c.cm (Ln.2 ⟨c,hc,rfl⟩))).1
 have hsr:∀ c∈cs,c.k=1→c.fr+c.ln≤f.length:=fun c hc hk=>by have h9:=(Pl.Jw (hv.one c.cm (Ln.2 ⟨c,hc,rfl⟩))).2.1 hk; rw [← ho]; exact h9
 have hd2:(cs.map Pl.tgE).Pairwise Pl.dj2:=by
  have h9:=vd_pw hv
  rw [List.pairwise_map] at h9 ⊢
  exact h9.imp fun h=>h
 refine C_o Tryz.func22 fun κ _ Je Jc hm=>?_
 refine au 2 ?_
 refine bT hm fun m3 w hm=>?_
 refine aT hm fun m4 w hm=>?_
 refine aT hm fun m5 w hm=>?_
 refine au 6 ?_
 refine Ja rfl rfl (Jm (s:=67) (vs:=dlV oo nn (Pl.hh (Pl.sha f) (Pl.sha (Pl.apl f (cs.map CmdV.cm) nn.toNat))) _ _ _) rfl ag26.h (hm.nt 2 rfl) rfl) ?_
 have hcon:=p_verify oo nn q cq cs _ (hq.Jj hm.to) hl (fun c hc=>Q1.mono (hok c hc) hm.to) hbl hv r cr f (hf.Jj hm.to) hfl hfs ho hn
 refine cA rfl rfl rfl hcon hm fun w hm=>?_
 refine aT hm fun m6 w hm=>?_
 refine st hm 0 fun w hm=>?_
 refine au 6 ?_
 refine Ja rfl rfl (JA (c:=false) (y_ne2 rfl rfl iii46) (by decide)) ?_
 refine au 5 ?_
 refine Xc (ι:=List CmdV×Ow×List (Nat×Blk)) rfl (ks:=[0,3,4,5]) (.cons rfl (.cons rfl (.cons rfl (.cons rfl .nil)))) (fun x=>[]) (fun x w=>Mem w0 w No ((m4,.row 26 (dlV oo nn (Pl.hh (Pl.sha f) (Pl.sha (Pl.apl f (cs.map CmdV.cm) nn.toNat))) x.2.1.p x.2.1.n x.2.1.cap))::(m5,.row 46 [.int .i64 0,.int .i64 0])::(x.2.1.g,x.2.1.b)::x.2.2)∧Acc 60 5 x.2.1.p x.2.1.n x.2.1.cap (x.1.flatMap JM) x.2.1.g x.2.1.b∧Pl.Arr f cs (x.1.map CmdV.cm)∧(∀ y∈x.1,Held x.2.2 5 y.d)) ?_ (fun x w hM=>?_)
 ·
  refine JS (.pure 0 (.pure 1 (.pure 2 (.pure 3 (.pure 6 (.act 4 (.act 5 (.act 7 (.cut (.act 8 .done)))))))))) (fun j=>j=m4) mix (by kernel_rfl) hm fun w hw hm0 hh=>?_
  have hm:=hm0
  refine Ja rfl rfl (Jm (s:=67) (vs:=dlV oo nn (Pl.hh (Pl.sha f) (Pl.sha (Pl.apl f (cs.map CmdV.cm) nn.toNat))) _ _ _) rfl ag26.h (hm0.nd 3 rfl (hm0.ne 3 2 rfl rfl rfl)) rfl) ?_
  refine au 2 ?_
  refine Ja rfl rfl (Jh rfl sc24.h (hm0.nd 3 rfl (hm0.ne 3 2 rfl rfl rfl)) rfl) ?_
  refine au 1 ?_
  refine ca rfl rfl rfl (v_arrange r cr f q cq cs _ (hf.Jj hm.to) hfl hfs (hq.Jj hm.to) (by omega) (fun c hc=>Q1.mono (hok c hc) hm.to) hbl hck hd2 hsr) fun v w hR=>?_
  obtain ⟨ds,p_o,n_o,cap_o,g_o,b_o,B_o,rfl,ha_o,har,hHo,hdl,hmc⟩:=hR
  refine ⟨hh.ext hmc.to,?_⟩
  replace hm:=hm.VZ hmc
  obtain rfl:=ha_o.QB Jf (by decide)
  replace hh:=hh.ext hmc.to
  obtain ⟨hvd2,-,hdl2⟩:=arr_vd ho hv har
  refine ca rfl rfl rfl (by exact d_with oo nn (Pl.hh (Pl.sha f) (Pl.sha (Pl.apl f (cs.map CmdV.cm) nn.toNat))) q cs.length cq p_o cap_o ds _ (ha_o.rd hm 0 rfl) (fun y hy=>Ya hm (hHo y hy) (by intro e he; simp [he]) (hvd2.one _ (Ln.2 ⟨y,hy,rfl⟩))) (by omega) (fun y hy=>V5 hvd2 hn y hy)) fun v w hR=>?_
  obtain ⟨xs_s,p_s,n_s,cap_s,g_s,b_s,B_s,rfl,ha_s,hx_s,hh_s,hmc⟩:=hR
  refine ⟨hh.ext hmc.to,?_⟩
  replace hh:=hh.ext hmc.to
  replace hm:=hm.VZ hmc
  obtain rfl:=ha_s.QB Jf (by decide)
  refine QO rfl rfl rfl rfl sz26 rfl hm 4 rfl rfl hh (.inr rfl) fun w hm hh=>?_
  replace hm:=Xu hm rfl
  refine au 1 ?_
  refine st hm 3 fun w hm=>?_
  refine au 1 ?_
  exact Qt (xs_s,⟨p_s,_,cap_s,g_s,b_s⟩,_) ⟨(hm.Jp [4,3,0] 6 rfl),ha_s,by simp only; rw [hx_s]; exact har,fun y hy=>(hh_s y hy).right⟩ ⟨rfl,rfl,rfl,rfl,trivial⟩
 ·
  obtain ⟨hm,ha_x,harx,hHx⟩:=hM
  refine au 1 ?_
  refine toR (fin Je rfl (.cell rfl (Ju (vs:=dlV oo nn (Pl.hh (Pl.sha f) (Pl.sha (Pl.apl f (cs.map CmdV.cm) nn.toNat))) _ _ _) ag26.h (hm.get (k:=0) rfl) rfl) (.cell rfl (Ju (vs:=[_,_]) ag46.h (hm.get (k:=1) rfl) rfl) .nil)) .more ?_)
  exact ⟨x.1,_,_,_,_,_,x.2.2,rfl,ha_x,harx,hHx,(hm.Jp [2] 3 rfl)⟩
def errP(e:Int):List PanicEntry:=[{ v:=.iface 35 (.int .i64 e),recovered:=false }]
end Go.Proofs.YtaehgpeenaomcaaGreat
namespace Go.Pl
open Go Go.Cx Go.Proofs.YtaehgpeenaomcaaGreat
def wrF(D:Pl.Dv)(a:Nat)(BB:List UInt8):Int×Pl.Dv:=
 if (Pl.wrS a BB (Pl.sN D.sz a BB.length) (Pl.sF D.sz a BB.length) D).1≠0 then Pl.wrS a BB (Pl.sN D.sz a BB.length) (Pl.sF D.sz a BB.length) D
 else (Pl.QS (Pl.wrS a BB (Pl.sN D.sz a BB.length) (Pl.sF D.sz a BB.length) D).2,Pl.fDv (Pl.wrS a BB (Pl.sN D.sz a BB.length) (Pl.sF D.sz a BB.length) D).2)
end Go.Pl
namespace Go.Proofs.YtaehgpeenaomcaaGreat
open Go Go.Cx
theorem YZ(e:Int)(w0:World):CE Tryz.prog 235 [.int .i64 e] w0 (fun v w'=>(v=.tuple ⟨[]⟩∧e=0)∧Ext No w0 w') fun c w'=>(c=errP e∧e≠0)∧Ext No w0 w':=by
 refine CE_of Tryz.func235 rfl rfl rfl fun κ _ Je Jc hpan=>?_
 have hm:=Mem.start w0
 refine au 6 ?_
 refine cd (fun hc0=>?_) fun hc0=>?_
 ·
  simp only [dT] at hc0
  refine JT (.pure 0 (.pure 1 (.act 2 .done))) (by kernel_rfl) ?_
  refine Ja rfl rfl (Jx rfl) ?_
  refine Ja rfl rfl (y_iface rfl un35 rfl) ?_
  refine a_panic rfl rfl rfl fun a hfa=>hpan _ a _ hfa.defers ?_
  exact ⟨⟨rfl,hc0⟩,hm.to⟩
 ·
  simp only [dF,Classical.not_not] at hc0
  refine au 1 ?_
  refine toN (fin Jc rfl .nil .nil ?_)
  exact ⟨⟨rfl,hc0⟩,hm.to⟩
theorem wrS_keep(a:Nat)(bs:List UInt8):∀ (n i:Nat) (D:Pl.Dv),(Pl.wrS a bs n i D).2.ca.length≤D.ca.length+n
 | 0,i,D=>by simp [Pl.wrS]
 | n+1,i,D=>by
  unfold Pl.wrS
  split
  · simp only; omega
  · split
    · have:=(Pl.wDv_sz D (i:Int) (Pl.VK D.sz (Pl.rdS D (i:Int)) a bs i)).2.2
      simp only; omega
    · have h1:=wrS_keep a bs n (i+1) (Pl.wDv D (i:Int) (Pl.VK D.sz (Pl.rdS D (i:Int)) a bs i))
      have h2:=(Pl.wDv_sz D (i:Int) (Pl.VK D.sz (Pl.rdS D (i:Int)) a bs i)).2.2
      omega
theorem sN_le{sz cnt a n:Nat}(hs:1≤sz)(h:a+n≤cnt*sz):Pl.sN sz a n≤cnt:=by
 unfold Pl.sN
 split
 · omega
 · have h1:(a+n-1)/sz<cnt:=Nat.div_lt_of_lt_mul (by rw [Nat.mul_comm]; omega)
   generalize (a+n-1)/sz=x at *
   generalize a/sz=y at *
   omega
theorem a_write(D:Pl.Dv)(md:Nat)(Z:List (Nat×Blk))(ma:Nat)(l:List Value)(oa:Nat)(q:Option Addr)(cq:Nat)(BB:List UInt8)(w0:World)(hZ:Jr w0 Z)(hz:JV 112 258 5 D md Z)(hr:w0.heap[ma]?=some (Blk.row 183 (.pointer (some ⟨md,0,none⟩)::l)).Jd)(hma:¬ Mn (reals Z) ma)(hon:Pl.onD D (oa:Int) (BB.length:Int)=true)(hq:Rd w0 q (BB.flatMap Jk))(hqZ:BB.flatMap Jk≠[]→∀ ad,q=some ad→¬ Mn (reals Z) ad.block)(hb:BB.length≤140737488355328)(hcl:D.ca.length+D.cnt≤500000000):CE Tryz.prog 237 [.pointer (some ⟨ma,0,none⟩),.int .i64 (oa:Int),.slice q BB.length cq] w0 (fun v w'=>(v=.tuple ⟨[]⟩∧(Pl.wrF D oa BB).1=0)∧∃ Z',JV 112 258 5 (Pl.wrF D oa BB).2 md Z'∧Mem w0 w' (Mn (reals Z)) Z') fun c w'=>(c=errP (Pl.wrF D oa BB).1∧(Pl.wrF D oa BB).1≠0)∧∃ Z',JV 112 258 5 (Pl.wrF D oa BB).2 md Z'∧Mem w0 w' (Mn (reals Z)) Z':=by
 have hok:=hz.ok
 have hsz:1≤D.sz:=hok.sz
 have hon2:=Pl.JJ.1 hon
 have hsn:=sN_le (cnt:=D.cnt) (a:=oa) (n:=BB.length) hsz (by omega)
 have hck:=wrS_keep oa BB (Pl.sN D.sz oa BB.length) (Pl.sF D.sz oa BB.length) D
 have hr9:=hr
 refine CE_of Tryz.func237 rfl rfl rfl fun κ _ Je Jc hpan=>?_
 have hm:=hZ.start
 refine au 5 ?_
 refine Ja rfl rfl (Jh rfl sc67.h (Qo hr9) rfl) ?_
 refine au 2 ?_
 refine Jb (l:=[_]) rfl rfl sl88.h z22.h rfl rfl rfl rfl rfl rfl rfl hm trivial fun m3 w hg_m3 hm hh=>?_
 refine cT rfl rfl rfl (f_write D md Z oa _ 1 [⟨q,cq,BB⟩] BB _ (Jr.right (A:=[_]) hm.Jz) hz hon (Rd.JL (hm.get (k:=0) rfl)) (by intro s9 hs9; rw [Lf.1 hs9]; exact hq.Yu hm.to hqZ) (by simp) (by simp) hb (by omega)) fun v w hR=>?_
 obtain ⟨rfl,Z1,hz1,hmc⟩:=hR
 replace hm:=Mem.JQ (A:=[_]) hm hmc
 have hr9:=(hm.to.same ma (Lb.1 hr).1 hma).trans hr
 have hw1:Pl.wrF D oa BB=if (Pl.wrS oa BB (Pl.sN D.sz oa BB.length) (Pl.sF D.sz oa BB.length) D).1≠0 then (Pl.wrS oa BB (Pl.sN D.sz oa BB.length) (Pl.sF D.sz oa BB.length) D) else (Pl.QS (Pl.wrS oa BB (Pl.sN D.sz oa BB.length) (Pl.sF D.sz oa BB.length) D).2,Pl.fDv (Pl.wrS oa BB (Pl.sN D.sz oa BB.length) (Pl.sF D.sz oa BB.length) D).2):=rfl
 generalize (Pl.wrS oa BB (Pl.sN D.sz oa BB.length) (Pl.sF D.sz oa BB.length) D)=W1 at hz1 hw1 hck ⊢
 refine Vo rfl rfl rfl go235 (YZ _ _) (fun c w hE a hfa=>hpan c a w hfa.defers ?_) fun v w hR=>?_
 ·
  obtain ⟨⟨rfl,he9⟩,hE⟩:=hE
  have hw2:Pl.wrF D oa BB=W1:=by rw [hw1,LI he9]
  rw [hw2]
  exact ⟨⟨rfl,he9⟩,Z1,hz1,(hm.Jp [] 1 rfl).ext hE⟩
 obtain ⟨⟨rfl,he9⟩,hE⟩:=hR
 refine ⟨trivial,?_⟩
 replace hm:=hm.ext hE
 have hr9:=(hm.to.same ma (Lb.1 hr).1 hma).trans hr
 refine au 6 ?_
 refine Ja rfl rfl (Jh rfl sc67.h (Qo hr9) rfl) ?_
 refine cT rfl rfl rfl (o_flush W1.2 md Z1 _ (Jr.right (A:=[_]) hm.Jz) hz1 (by omega)) fun v w hR=>?_
 obtain ⟨rfl,Z2,hz2,hmc⟩:=hR
 replace hm:=Mem.JQ (A:=[_]) hm hmc
 have hw2:Pl.wrF D oa BB=(Pl.QS W1.2,Pl.fDv W1.2):=by rw [hw1,LH (fun h=>h he9)]
 refine Vo rfl rfl rfl go235 (YZ _ _) (fun c w hE a hfa=>hpan c a w hfa.defers ?_) fun v w hR=>?_
 ·
  obtain ⟨⟨rfl,he8⟩,hE⟩:=hE
  rw [hw2]
  exact ⟨⟨rfl,he8⟩,Z2,hz2,(hm.Jp [] 1 rfl).ext hE⟩
 obtain ⟨⟨rfl,he9⟩,hE⟩:=hR
 refine ⟨trivial,?_⟩
 replace hm:=hm.ext hE
 have hr9:=(hm.to.same ma (Lb.1 hr).1 hma).trans hr
 refine au 1 ?_
 refine toN (fin Jc rfl .nil .nil ?_)
 rw [hw2]
 exact ⟨⟨rfl,he9⟩,Z2,hz2,(hm.Jp [] 1 rfl)⟩
theorem ownZ_ext{w w':World}{Z:List (Nat×Blk)}{Y:Bs}(h:Jr w Z)(hx:Ext Y w w')(hY:∀ k,Mn (reals Z) k→¬ Y k):Jr w' Z:=
 ⟨fun p hp hr=>by
  have h1:=h.1 p hp hr
  exact (hx.same p.1 (Lb.1 h1).1 (hY _ (JD.2 ⟨p.2,hp,hr⟩))).trans h1,h.2⟩
end Go.Proofs.YtaehgpeenaomcaaGreat
namespace Go.Cx
open Go Go.Cx Go.Proofs.YtaehgpeenaomcaaGreat
theorem CE.c{P:Program}{f:FuncId}{vs:List Value}{w:World}{R:Value→World→Prop}{E:List PanicEntry→World→Prop}(h:CE P f vs w R E)(hE:∀ c w,¬ E c w):C P f vs w R:=
 Calls.mono h fun e w' h9=>by
  cases e with
  | returned v=>exact ⟨v,rfl,h9⟩
  | panicked c=>exact absurd h9 (hE _ _)
  | outgrown=>exact h9.elim
end Go.Cx
namespace Go.Proofs.YtaehgpeenaomcaaGreat
open Go Go.Cx
theorem acc_notT{w0 w:World}{X:Bs}{A Z:List (Nat×Blk)}{e es n cap g k:Nat}{b:Blk}{p:Option Addr}{cells:List Value}(hm:Mem w0 w X (A++Z))(hk:blk A k=some (g,b))(h:Acc e es p n cap cells g b):cells≠[]→∀ ad,p=some ad→¬ Mn (reals Z) ad.block:=fun hc ad hp=>by
 obtain ⟨h1,h2⟩:=h.at9 hc
 rw [h1] at hp; cases hp
 exact Mem.notT hm hk h2
theorem a_stop0(e:Int)(he:e=0)(w0:World):C Tryz.prog 235 [.int .i64 e] w0 fun v w'=>v=.tuple ⟨[]⟩∧Ext No w0 w':=
 ((YZ e w0).c fun c w h=>h.1.2 he).mono fun v w h=>⟨h.1.1,h.2⟩
theorem a_read(D:Pl.Dv)(md:Nat)(Z:List (Nat×Blk))(ma:Nat)(bnd pk:Int)(l:List Value)(a n:Nat)(w0:World)(hZ:Jr w0 Z)(hz:JV 112 258 5 D md Z)(hr:w0.heap[ma]?=some (Blk.row 183 (.pointer (some ⟨md,0,none⟩)::.int .i64 bnd::.int .i64 pk::l)).Jd)(hma:¬ Mn (reals Z) ma)(hon:Pl.onD D (a:Int) (n:Int)=true)(hdn:D.dn=false):C Tryz.prog 234 [.pointer (some ⟨ma,0,none⟩),.agg ⟨[.int .i64 (a:Int),.int .i64 (n:Int)]⟩] w0 fun v w'=>∃ q c g b,v=.slice q (Pl.rdB D (a:Int) (n:Int)).length c∧Acc 5 1 q (Pl.rdB D (a:Int) (n:Int)).length c ((Pl.rdB D (a:Int) (n:Int)).flatMap Jk) g b∧Mem w0 w' (fun k=>k=ma) [(g,b),(ma,.row 183 (.pointer (some ⟨md,0,none⟩)::.int .i64 bnd::.int .i64 (max pk (Pl.rdB D (a:Int) (n:Int)).length)::l))]:=by
 have hcd:=Pl.XB hdn hon
 refine Vk Tryz.func234 rfl rfl rfl fun κ _ Je Jc=>?_
 have hm:=Mem.Vq hr
 refine au 2 ?_
 refine bT hm fun m3 w hm=>?_
 refine au 4 ?_
 refine dw [0,3,6,9,12,16,18,21,24,27,30] hm fun w hw hm0 hh hm=>?_
 refine au 5 ?_
 refine ca rfl rfl rfl (f_read D md Z a n _ (ownZ_ext hZ hm.to fun k h1 h2=>hma (h2▸h1)) hz hon) fun v w hR=>?_
 obtain ⟨p_u,cap_u,g_u,b_u,rfl,ha_u,hmc⟩:=hR
 refine ⟨hh.ext hmc.to,?_⟩
 replace hh:=hh.ext hmc.to
 replace hm:=hm.Jt hmc
 rw [hcd]
 refine au 10 ?_
 refine cA rfl rfl rfl (a_stop0 0 rfl _) hm fun w hm=>?_
 refine au 14 ?_
 refine st hm 2 fun w hm=>?_
 refine au 10 ?_
 exact ⟨_,_,_,_,rfl,ha_u,(hm.pick [0,2] rfl)⟩
theorem a_feed(D:Pl.Dv)(md:Nat)(Z:List (Nat×Blk))(ma:Nat)(bnd pk:Int)(l:List Value)(a n:Nat)(mh:Nat)(msg:List UInt8)(Zh:List (Nat×Blk))(w0:World)(hZ:Jr w0 Z)(hz:JV 112 258 5 D md Z)(hzh:VN 126 5 msg mh Zh)(hml:msg.length≤1000000000)(hO:Jr w0 ((ma,.row 183 (.pointer (some ⟨md,0,none⟩)::.int .i64 bnd::.int .i64 pk::l))::Zh))(hr:w0.heap[ma]?=some (Blk.row 183 (.pointer (some ⟨md,0,none⟩)::.int .i64 bnd::.int .i64 pk::l)).Jd)(hma:¬ Mn (reals Z) ma)(hon:Pl.onD D (a:Int) (n:Int)=true)(hdn:D.dn=false)(hZh:∀ k,Mn (reals Z) k→¬ Mn (reals Zh) k)(hb1:1≤bnd∧bnd≤1000000):C Tryz.prog 233 [.pointer (some ⟨ma,0,none⟩),.pointer (some ⟨mh,0,none⟩),.agg ⟨[.int .i64 (a:Int),.int .i64 (n:Int)]⟩] w0 fun v w'=>v=.tuple ⟨[]⟩∧∃ pk' Zh',VN 126 5 (msg++(Pl.rdB D (a:Int) (n:Int))) mh Zh'∧pk≤pk'∧pk'≤max pk bnd∧Mem w0 w' (Mn (reals ((ma,.row 183 (.pointer (some ⟨md,0,none⟩)::.int .i64 bnd::.int .i64 pk::l))::Zh))) ((ma,.row 183 (.pointer (some ⟨md,0,none⟩)::.int .i64 bnd::.int .i64 pk'::l))::Zh'):=by
 have hok:=hz.ok
 have hcd:=Pl.XB hdn hon
 have hon2:=Pl.JJ.1 hon
 have hmx:=hok.max
 have hf0:=Pl.dig_first (D:=D) (a:=(a:Int)) (c:=bnd) (show (0:Int)≤(n:Int) by omega)
 refine Vk Tryz.func233 rfl rfl rfl fun κ _ Je Jc=>?_
 have hm:=hO.start
 refine au 2 ?_
 refine bT hm fun m4 w hm=>?_
 refine au 3 ?_
 refine dw [0,3,6,9,12,21,2,16,18] hm fun w hw hm0 hh hm=>?_
 refine au 7 ?_
 refine cT rfl rfl rfl (ext_split (a:Int) (n:Int) bnd _ (by omega) (by simp only [Pl.I64]; omega)) fun v w hR=>?_
 obtain ⟨p_s,cap_s,g_s,b_s,N,rfl,hN,ha_s,hmc⟩:=hR
 replace hm:=hm.Jt hmc
 have hNm:=Pl.pieces_le (n:Int) bnd
 refine au 4 ?_
 refine Jg (ι:=Nat×Int×List (Nat×Blk)) rfl (ks:=[0,1,13,14]) (.cons rfl (.cons rfl (.cons rfl (.cons rfl .nil)))) (fun x=>[(15,.int .i64 (x.1:Int))]) (fun x w=>Mem w0 w (Mn (reals ((ma,.row 183 (.pointer (some ⟨md,0,none⟩)::.int .i64 bnd::.int .i64 pk::l))::Zh))) ((g_s,b_s)::(ma,.row 183 (.pointer (some ⟨md,0,none⟩)::.int .i64 bnd::.int .i64 x.2.1::l))::x.2.2)∧VN 126 5 (msg++Pl.hfD D a n bnd x.1) mh x.2.2∧x.1≤N∧pk≤x.2.1∧x.2.1≤max pk bnd) (fun x=>N-x.1) (0,pk,Zh) (⟨(hm.Jp [0,2] 3 rfl),by rw [hf0,Lq]; exact hzh,LL _,Int.le_refl _,Int.le_max_left ..⟩) ⟨rfl,trivial⟩ (fun x w hM=>?_)
 obtain ⟨k,pk1,Z1⟩:=x
 obtain ⟨hm,hz1,hk,hp1,hp2⟩:=hM
 simp only at hm hz1 hk hp1 hp2 ⊢
 have hfl:=Pl.hfD_len hok (a:Int) (n:Int) bnd k
 refine au 6 ?_
 refine cd (fun hc0=>?_) fun hc0=>?_
 ·
  simp only [dT] at hc0
  obtain ⟨hd1,hd2,hd3,hd4⟩:=Pl.dig_next hok hdn hon hN (k:=k) (by omega)
  have hpo:=Pl.pieces_ok (a:=(a:Int)) (b:=(n:Int)) (c:=bnd) (by omega) hN (Pl.piece (a:Int) (n:Int) bnd k) (Ln.2 ⟨k,List.mem_range.2 (by omega),rfl⟩)
  obtain ⟨ax,hax⟩:∃ x:Nat,(Pl.piece (a:Int) (n:Int) bnd k).1=x:=⟨(Pl.piece (a:Int) (n:Int) bnd k).1.toNat,by omega⟩
  obtain ⟨nx9,hnx⟩:∃ x:Nat,(Pl.piece (a:Int) (n:Int) bnd k).2=x:=⟨(Pl.piece (a:Int) (n:Int) bnd k).2.toNat,by omega⟩
  have hpb:(nx9:Int)≤bnd:=by rw [← hnx]; exact Int.min_le_left ..
  have honp:Pl.onD D (ax:Int) (nx9:Int)=true:=Pl.JJ.2 (by omega)
  have hi:((List.range N).map fun j=>Pl.piece (a:Int) (n:Int) bnd j)[k]?=some (Pl.piece (a:Int) (n:Int) bnd k):=by rw [Lt,List.getElem?_range (by omega)]; rfl
  have hfm9:((List.range N).flatMap fun j=>Q9 (Pl.piece (a:Int) (n:Int) bnd j))=(((List.range N).map fun j=>Pl.piece (a:Int) (n:Int) bnd j).flatMap Q9):=by rw [List.flatMap_map]
  have ha_s:=ha_s.to hfm9
  obtain ⟨qb,qo,rfl⟩:=(ha_s.rd hm 0 rfl).atI QM (by decide) hi
  have hrl:((Pl.rdB D (ax:Int) (nx9:Int)).length:Int)≤bnd:=by unfold Pl.rdB; split <;> simp only [Lg,LA] <;> omega
  refine au 7 ?_
  refine Ja rfl rfl (JU rfl ag32.h (ha_s.rd hm 0 rfl).nt QM hi) ?_
  refine aT hm fun m7 w hm=>?_
  refine st hm 0 fun w hm=>?_
  refine au 5 ?_
  refine Ja rfl rfl (y_v (Jm (s:=2) (vs:=[_,_]) rfl ag32.h (hm.nt 0 rfl) rfl) (LM (fun x=>Value.agg ⟨x⟩) (by unfold Q9; rw [hax,hnx]:Q9 (Pl.piece (a:Int) (n:Int) bnd k)=[.int .i64 (ax:Int),.int .i64 (nx9:Int)]))) ?_
  refine cT rfl rfl rfl (a_read D md Z ma bnd pk1 l ax nx9 _ (ownZ_ext hZ hm.to (fun k9 h1 h2=>by rcases JD.1 h2 with ⟨b9,h3,h4⟩; rcases LR.1 h3 with h5 | h5; exact hma (by cases h5; exact h1); exact hZh k9 h1 (JD.2 ⟨b9,h5,h4⟩))) hz (hm.get (k:=2) rfl) hma honp hdn) fun v w hR=>?_
  obtain ⟨p_u,cap_u,g_u,b_u,rfl,ha_u,hmc⟩:=hR
  replace hm:=hm.Qv (N:=[(g_u,b_u)]) 2 rfl (hmc.pick [1,0] rfl)
  refine Jb (l:=[_]) rfl rfl sl88.h z22.h rfl rfl rfl rfl rfl rfl rfl hm trivial fun m8 w hg_m8 hm hh=>?_
  refine cT rfl rfl rfl (h_write _ 1 [⟨p_u,cap_u,Pl.rdB D (ax:Int) (nx9:Int)⟩] 126 mh (msg++Pl.hfD D a n bnd k) Z1 _ (Jr.right (A:=[_,_,_,_,_]) hm.Jz) hz1 (by rw [Lc]; omega) (Rd.JL (hm.get (k:=0) rfl)) (by intro s9 hs9; rw [Lf.1 hs9]; exact ha_u.rd hm 1 rfl) (fun _ ad h=>by cases h; exact Mem.notT (A:=[_,_,_,_,_]) hm (k:=0) rfl) (by intro s9 hs9; rw [Lf.1 hs9]; exact acc_notT (A:=[_,_,_,_,_]) (k:=1) hm rfl ha_u) (by simp) (by simp only [Lk,LY,Lq,Lc]; omega)) fun v w hR=>?_
  obtain ⟨rfl,Z9,hz9,hmc⟩:=hR
  replace hm:=Mem.JQ (A:=[_,_,_,_,_]) hm hmc
  simp only [Lk,LY,Lq] at hz9
  rw [hax,hnx] at hd4
  refine au 7 ?_
  exact next (k+1,_,Z9) (by simp only; omega) ⟨(hm.Jp [3,4] 5 rfl),by simp only; rw [hd4,← Lp]; exact hz9,by simp only; omega,by simp only; omega,by simp only; omega⟩ ⟨nx k,rfl,rfl,rfl,rfl,trivial⟩
 ·
  simp only [dF] at hc0
  have hke:k=N:=by omega
  rw [hke,Pl.dig_last hok hdn hon hb1.1 hN] at hz1
  refine au 4 ?_
  refine toN (fin Jc rfl .nil .nil ?_)
  exact ⟨rfl,pk1,Z1,hz1,hp1,hp2,(hm.Jp [1] 2 rfl)⟩
end Go.Proofs.YtaehgpeenaomcaaGreat
namespace Go.Pl
open Go Go.Cx Go.Proofs.YtaehgpeenaomcaaGreat
structure Ap where
 D:Pl.Dv
 S:Pl.Jn
 st:Int
 nx:Int
 sg:Bool
def Ap.adv(A:Pl.Ap):Pl.Ap:=⟨A.D,A.S,1,A.nx+1,false⟩
def JB(b:Int)(cs:List Pl.Cm)(i:Nat):Pl.Cm:=(((Pl.steps b 0 cs)[i]?).map (·.2)).getD Pl.cm0
def JF(b:Int)(cs:List Pl.Cm):Int:=Pl.first b cs cs.length
def Ap.redo(A:Pl.Ap):Int×Pl.Ap:=
 if (Pl.wrF A.D (Pl.jla A.S).of.toNat (Pl.jla A.S).bs).1≠0 then ((Pl.wrF A.D (Pl.jla A.S).of.toNat (Pl.jla A.S).bs).1,⟨(Pl.wrF A.D (Pl.jla A.S).of.toNat (Pl.jla A.S).bs).2,A.S,A.st,A.nx,A.sg⟩)
 else (0,⟨(Pl.wrF A.D (Pl.jla A.S).of.toNat (Pl.jla A.S).bs).2,A.S,1,A.nx+1,false⟩)
def Ap.bts(A:Pl.Ap)(d:Pl.Cm):List UInt8:=if d.k=1 then Pl.rdB A.D d.fr d.ln else d.bs
def Ap.put(A:Pl.Ap)(J:Int×Pl.Dv×Pl.Jn)(o:Int)(bs:List UInt8):Int×Pl.Ap:=
 if J.1≠0 then (J.1,⟨J.2.1,J.2.2,A.st,A.nx,A.sg⟩)
 else if (Pl.wrF J.2.1 o.toNat bs).1≠0 then ((Pl.wrF J.2.1 o.toNat bs).1,⟨(Pl.wrF J.2.1 o.toNat bs).2,J.2.2,A.st,A.nx,A.sg⟩)
 else (0,⟨(Pl.wrF J.2.1 o.toNat bs).2,J.2.2,1,A.nx+1,false⟩)
def Ap.exec(f N:Nat)(b k:Int)(cs:List Pl.Cm)(A:Pl.Ap):Int×Pl.Ap:=
 A.put (Pl.japp A.D f N b A.S (Pl.jmk A.S k A.nx (Pl.JB b cs A.nx.toNat).to (A.bts (Pl.JB b cs A.nx.toNat)))) (Pl.JB b cs A.nx.toNat).to (A.bts (Pl.JB b cs A.nx.toNat))
def Ap.fin(f N:Nat)(b k:Int)(cs:List Pl.Cm)(A:Pl.Ap):Int×Pl.Ap:=
 if (Pl.japp A.D f N b A.S (Pl.jmk A.S k (Pl.JF b cs) 0 [])).1≠0 then ((Pl.japp A.D f N b A.S (Pl.jmk A.S k (Pl.JF b cs) 0 [])).1,⟨(Pl.japp A.D f N b A.S (Pl.jmk A.S k (Pl.JF b cs) 0 [])).2.1,(Pl.japp A.D f N b A.S (Pl.jmk A.S k (Pl.JF b cs) 0 [])).2.2,A.st,A.nx,A.sg⟩)
 else (0,⟨(Pl.japp A.D f N b A.S (Pl.jmk A.S k (Pl.JF b cs) 0 [])).2.1,(Pl.japp A.D f N b A.S (Pl.jmk A.S k (Pl.JF b cs) 0 [])).2.2,2,A.nx,A.sg⟩)
def Ap.step(f N:Nat)(b k:Int)(cs:List Pl.Cm)(A:Pl.Ap):Int×Pl.Ap:=
 if A.st=2 then (0,A) else if A.sg=true then A.redo else if A.nx=Pl.JF b cs then A.fin f N b k cs else A.exec f N b k cs
end Go.Pl
namespace Go.Proofs.YtaehgpeenaomcaaGreat
open Go Go.Cx
structure ApK where
 md:Nat
 ma:Nat
 mp:Nat
 f:Nat
 N:Nat
 kk:Int
 bnd:Int
 oo:Int
 nn:Int
 fl:List UInt8
 q:Option Addr
 cq:Nat
 cs:List CmdV
 pf:Option Addr
 pb:Option Addr
 pl:Option Addr
 cf:Nat
 cb:Nat
 cl:Nat
 xs:List CmdV
 F:List (Nat×Blk)
def ApK.cm(K:ApK):List Pl.Cm:=K.cs.map CmdV.cm
def ApK.nw(K:ApK):List UInt8:=Pl.apl K.fl K.cm K.nn.toNat
def ApK.H(K:ApK):Nat→UInt8:=Pl.hh (Pl.sha K.fl) (Pl.sha K.nw)
structure ApK.ok(K:ApK):Prop where
 dl:∀ w,Jr w K.F→Rd w K.q (K.cs.flatMap JM)∧∀ c∈K.cs,Q1 w c
 pl:∀ w,Jr w K.F→w.heap[K.mp]?=some (Blk.row 286 (plV K.bnd K.pf (J2 K.bnd (K.xs.map CmdV.cm)).length K.cf K.pb K.cb K.pl K.xs.length K.cl)).Jd∧Rd w K.pf ((J2 K.bnd (K.xs.map CmdV.cm)).flatMap Go.Cx.encI)∧Rd w K.pb ((beforeL (K.xs.map CmdV.cm)).flatMap Go.Cx.encI)∧Rd w K.pl (K.xs.flatMap JM)∧∀ x∈K.xs,x.d.okN w∧x.d.bs.length≤140737488355328
 xc:K.xs.map CmdV.cm=K.cm
 few:K.cs.length≤20
 ol:K.oo=K.fl.length
 vd:Pl.VD K.oo K.nn K.cm
 on:0≤K.oo∧K.oo≤1000000∧0≤K.nn∧K.nn≤1000000
 fw:Pl.ZF K.bnd (K.xs.map CmdV.cm)
 mx:(K.xs.map CmdV.cm).length≤1000000∧Pl.first K.bnd (K.xs.map CmdV.cm) (K.xs.map CmdV.cm).length≤1000000000
 bn:1≤K.bnd∧K.bnd≤65536
 n0:K.N≠0
 k64:0≤K.kk∧K.kk≤18446744073709551615
 ck:∀ p∈Pl.steps K.bnd 0 K.cm,0≤p.2.to∧(p.2.k=1→0≤p.2.fr∧0≤p.2.ln∧p.2.fr+p.2.ln≤K.oo∧p.2.to+p.2.ln≤K.nn∧p.2.ln≤K.bnd)∧(p.2.k≠1→p.2.to+p.2.bs.length≤K.nn∧(p.2.bs.length:Int)≤K.bnd)
def apV(md:Nat)(bnd pk:Int)(dl:List Value)(mp j:Nat)(st nx:Int)(sg:Bool):List Value:=
 .pointer (some ⟨md,0,none⟩)::.int .i64 bnd::.int .i64 pk::(dl++[.pointer (some ⟨mp,0,none⟩),.pointer (some ⟨j,0,none⟩),.int .i64 st,.int .i64 nx,.bool sg])
def ApR(K:ApK)(A:Pl.Ap)(pk:Int)(j:Nat):Nat×Blk:=(K.ma,.row 183 (apV K.md K.bnd pk (dlV K.oo K.nn K.H K.q K.cs.length K.cq) K.mp j A.st A.nx A.sg))
def AZ(K:ApK)(A:Pl.Ap)(pk:Int)(Z:List (Nat×Blk)):Prop:=
 ∃ j Zj Zd,Z=ApR K A pk j::(K.F++(Zj++Zd))∧JZ 271 5 K.md (K.f:Int) K.bnd K.kk A.S j Zj∧JV 112 258 5 A.D K.md Zd
def ApO(K:ApK)(A:Pl.Ap)(pk:Int)(w w':World)(Z:List (Nat×Blk)):Prop:=∃ pk' Z',pk'≤max pk K.bnd∧AZ K A pk' Z'∧Mem w w' (Mn (reals Z)) Z'
end Go.Proofs.YtaehgpeenaomcaaGreat
namespace Go.Pl
open Go Go.Cx Go.Proofs.YtaehgpeenaomcaaGreat
structure SidP(f N:Nat)(b oo nn:Int)(nw:List UInt8)(cs:List Pl.Cm)(A:Pl.Ap):Prop where
 dn:A.D.dn=false
 sl:Pl.slot (A.D.sz:Int) b=(N:Int)
 h2:f+2*N≤A.D.cnt
 hS:0≤A.S.nx∧A.S.nx≤18446744073709551615
 cl:A.D.ca.length+A.D.cnt≤10000000
 nx:0≤A.nx∧A.nx≤Pl.JF b cs
 fo:Pl.onD A.D 0 oo=true
 fn:Pl.onD A.D 0 nn=true
 la:A.S.la.bs.length≤1000000
 sg:A.sg=true→A.nx<Pl.JF b cs∧0≤(Pl.jla A.S).of∧Pl.onD A.D (Pl.jla A.S).of ((Pl.jla A.S).bs.length:Int)=true
 hh:A.st≠2→A.sg=false→A.nx=Pl.JF b cs→Pl.rdB A.D 0 nn=nw
end Go.Pl
namespace Go.Proofs.YtaehgpeenaomcaaGreat
open Go Go.Cx
abbrev Sid(K:ApK)(A:Pl.Ap):Prop:=Pl.SidP K.f K.N K.bnd K.oo K.nn K.nw K.cm A
theorem apD{w0 w w':World}{X:Bs}{A F Zj Zd Zd':List (Nat×Blk)}(h:Mem w0 w X (A++(F++(Zj++Zd))))(hc:Mem w w' (Mn (reals Zd)) Zd'):Mem w0 w' X (A++(F++(Zj++Zd'))):=by
 have h1:Mem w0 w X ((A++F++Zj)++Zd):=by simpa only [Lp] using h
 have h2:=Mem.JQ h1 hc
 simpa only [Lp] using h2
theorem apJ{w0 w w':World}{X:Bs}{A F Z Z':List (Nat×Blk)}(h:Mem w0 w X (A++(F++Z)))(hc:Mem w w' (Mn (reals Z)) Z'):Mem w0 w' X (A++(F++Z')):=Mem.callR h hc
theorem apNo{w0 w:World}{X:Bs}{A F Zj Zd:List (Nat×Blk)}{n k:Nat}{b:Blk}(h:Mem w0 w X (A++(F++(Zj++Zd))))(hk:blk A k=some (n,b))(hb:b.real=true:=by rfl):¬ Mn (reals Zd) n:=by
 have h1:Mem w0 w X ((A++F++Zj)++Zd):=by simpa only [Lp] using h
 refine Mem.notT (k:=k) h1 ?_ hb
 rw [blk_eq] at hk ⊢
 rw [Lp,L3 (Le.1 hk).1]
 exact hk
theorem Xs{w:World}{A F Z:List (Nat×Blk)}(h:Jr w (A++(F++Z))):Jr w F:=(Jr.right (A:=A) h).left
theorem ownJ{w:World}{A F Z:List (Nat×Blk)}(h:Jr w (A++(F++Z))):Jr w Z:=(Jr.right (A:=A) h).right
theorem ApO.mk{K:ApK}{A:Pl.Ap}{pk pk':Int}{w w':World}{Z Zj Zd:List (Nat×Blk)}{j:Nat}(hp:pk'≤max pk K.bnd)(hj:JZ 271 5 K.md (K.f:Int) K.bnd K.kk A.S j Zj)(hz:JV 112 258 5 A.D K.md Zd)(hm:Mem w w' (Mn (reals Z)) (ApR K A pk' j::(K.F++(Zj++Zd)))):ApO K A pk w w' Z:=
 ⟨pk',_,hp,⟨j,Zj,Zd,rfl,hj,hz⟩,hm⟩
theorem a_adv(K:ApK)(A:Pl.Ap)(pk:Int)(j:Nat)(w0:World)(hr:w0.heap[K.ma]?=some (ApR K A pk j).2.Jd)(hn:0≤A.nx∧A.nx≤1000000000):C Tryz.prog 238 [.pointer (some ⟨K.ma,0,none⟩)] w0 fun v w'=>v=.tuple ⟨[]⟩∧Mem w0 w' (fun k=>k=K.ma) [ApR K A.adv pk j]:=by
 refine Vk Tryz.func238 rfl rfl rfl fun κ _ Je Jc=>?_
 have hm:=Mem.Vq hr
 refine au 6 ?_
 refine st hm 0 fun w hm=>?_
 refine au 2 ?_
 refine st hm 0 fun w hm=>?_
 refine au 10 ?_
 refine st hm 0 fun w hm=>?_
 refine au 1 ?_
 refine toN (fin Jc rfl .nil .nil ?_)
 exact ⟨rfl,hm⟩
theorem a_redo(K:ApK)(A:Pl.Ap)(pk:Int)(j:Nat)(Zj Zd:List (Nat×Blk))(w0:World)(hK:K.ok)(hs:Sid K A)(hO:Jr w0 (ApR K A pk j::(K.F++(Zj++Zd))))(hj:JZ 271 5 K.md (K.f:Int) K.bnd K.kk A.S j Zj)(hz:JV 112 258 5 A.D K.md Zd)(hsg:A.sg=true):CE Tryz.prog 190 [.pointer (some ⟨K.ma,0,none⟩)] w0 (fun v w'=>v=.tuple ⟨[]⟩∧A.redo.1=0∧ApO K A.redo.2 pk w0 w' (ApR K A pk j::(K.F++(Zj++Zd)))) fun c w'=>(c=errP A.redo.1∧A.redo.1≠0)∧ApO K A.redo.2 pk w0 w' (ApR K A pk j::(K.F++(Zj++Zd))):=by
 obtain ⟨hs0,hs1,hs2⟩:=hs.sg hsg
 obtain ⟨oa,hoa⟩:∃ x:Nat,(Pl.jla A.S).of=x:=⟨(Pl.jla A.S).of.toNat,by omega⟩
 have hla:=hs.la
 have hlb:(Pl.jla A.S).bs.length≤1000000:=by unfold Pl.jla; split; exact hla; exact LL _
 rw [hoa] at hs2
 have hrd:A.redo=if (Pl.wrF A.D (Pl.jla A.S).of.toNat (Pl.jla A.S).bs).1≠0 then ((Pl.wrF A.D (Pl.jla A.S).of.toNat (Pl.jla A.S).bs).1,⟨(Pl.wrF A.D (Pl.jla A.S).of.toNat (Pl.jla A.S).bs).2,A.S,A.st,A.nx,A.sg⟩) else (0,⟨(Pl.wrF A.D (Pl.jla A.S).of.toNat (Pl.jla A.S).bs).2,A.S,1,A.nx+1,false⟩):=rfl
 rw [hoa,LD] at hrd
 refine CE_of Tryz.func190 rfl rfl rfl fun κ _ Je Jc hpan=>?_
 have hm:=hO.start
 refine au 6 ?_
 refine cT rfl rfl rfl (j_last K.md K.f K.bnd K.kk A.S j Zj _ (ownJ (A:=[_]) hm.Jz).left hj (by omega)) fun v w hR=>?_
 obtain ⟨p_u,cap_u,g_u,b_u,rfl,ha_u,hmc⟩:=hR
 replace hm:=hm.Jt hmc
 refine au 3 ?_
 refine aT hm fun r w hm=>?_
 refine st hm 0 fun w hm=>?_
 refine au 4 ?_
 refine dw [0,3,6,9,12,15,18,2,22] hm fun w hw hm0 hh hm=>?_
 refine au 4 ?_
 refine Ja rfl rfl (y_v (Jh rfl sc3.h (hm0.nd 0 rfl id) rfl) (LM (Value.int .i64) hoa)) ?_
 refine au 3 ?_
 refine Vo rfl rfl rfl go237 (a_write A.D K.md Zd K.ma _ oa p_u cap_u (Pl.jla A.S).bs _ (ownJ (A:=[_,_,_]) hm.Jz).right hz (hm.get (k:=2) rfl) (apNo (A:=[_,_,_]) (k:=2) hm rfl) hs2 (ha_u.rd hm 1 rfl) (fun h9 ad h8=>by obtain ⟨h7,h6⟩:=ha_u.at9 h9; rw [h7] at h8; cases h8; exact apNo (A:=[_,_,_]) (k:=1) hm rfl h6) (by omega) (by have:=hs.cl; omega)) (fun c w hE a hfa=>hpan c a w hfa.defers ?_) fun v w hR=>?_
 ·
  obtain ⟨⟨rfl,he9⟩,z1.h,hz1,hmc⟩:=hE
  rw [hrd,LI he9]
  exact ⟨⟨rfl,he9⟩,.mk (Int.le_max_left ..) hj hz1 (apD (A:=[_]) (hm.Jp [2] 3 rfl) hmc)⟩
 obtain ⟨⟨rfl,he9⟩,z1.h,hz1,hmc⟩:=hR
 refine ⟨trivial,?_⟩
 replace hm:=apD (A:=[_,_,_]) hm hmc
 refine au 4 ?_
 refine cT rfl rfl rfl (a_adv K ⟨(Pl.wrF A.D oa (Pl.jla A.S).bs).2,A.S,A.st,A.nx,A.sg⟩ pk j _ (hm.get (k:=2) rfl) (by have h9:=hs.nx; have h8:=hK.mx.2; have h7:=hK.xc; simp only [Pl.JF] at h9; rw [h7] at h8; simp only; omega)) fun v w hR=>?_
 obtain ⟨rfl,hmc⟩:=hR
 replace hm:=hm.Qv (N:=[]) 2 rfl hmc
 refine au 1 ?_
 refine toN (fin Jc rfl .nil .nil ?_)
 rw [hrd,LH (fun h=>h he9)]
 exact ⟨rfl,rfl,.mk (Int.le_max_left ..) hj hz1 (hm.Jp [2] 3 rfl)⟩
theorem wrS_cnt(a:Nat)(bs:List UInt8):∀ (n i:Nat) (D:Pl.Dv),(Pl.wrS a bs n i D).2.sz=D.sz∧(Pl.wrS a bs n i D).2.cnt=D.cnt
 | 0,i,D=>⟨rfl,rfl⟩
 | n+1,i,D=>by
  have h2:=Pl.wDv_sz D (i:Int) (Pl.VK D.sz (Pl.rdS D (i:Int)) a bs i)
  unfold Pl.wrS
  split
  · exact ⟨rfl,rfl⟩
  · split
    · exact ⟨h2.1,h2.2.1⟩
    · have h1:=wrS_cnt a bs n (i+1) (Pl.wDv D (i:Int) (Pl.VK D.sz (Pl.rdS D (i:Int)) a bs i))
      rw [h2.1,h2.2.1] at h1
      exact h1
theorem fDv_ok0{D:Pl.Dv}(h:Pl.QS D=0):(Pl.fDv D).dn=false∧(Pl.fDv D).sz=D.sz∧(Pl.fDv D).cnt=D.cnt∧(Pl.fDv D).ca=[]:=by
 unfold Pl.QS at h
 unfold Pl.fDv
 split at h
 · omega
 · rename_i h1
   rw [LH h1]
   exact ⟨by cases h2:D.dn <;> simp_all [Pl.persist],rfl,rfl,rfl⟩
theorem japp_ok0{D:Pl.Dv}{f N:Nat}{b:Int}{S:Pl.Jn}{r:Pl.Rc}(h:(Pl.japp D f N b S r).1=0):(Pl.japp D f N b S r).2.1.dn=false∧(Pl.japp D f N b S r).2.1.sz=D.sz∧(Pl.japp D f N b S r).2.1.cnt=D.cnt∧(Pl.japp D f N b S r).2.1.ca=[]:=by
 unfold Pl.japp at h ⊢
 split at h
 · rename_i h0
   rw [LI h0]
   unfold Pl.jgo at h ⊢
   split at h
   · rename_i h1; exact absurd h h1
   · rename_i h1
     rw [LH h1]
     split at h
     · rename_i h2; exact absurd h h2
     · rename_i h2
       rw [LH h2]
       have h3:=fDv_ok0 (D:=(Pl.jwr D f N S r).2) (by omega)
       have h4:(Pl.jwr D f N S r).2.sz=D.sz∧(Pl.jwr D f N S r).2.cnt=D.cnt:=wrS_cnt _ _ _ _ _
       exact ⟨h3.1,h3.2.1.trans h4.1,h3.2.2.1.trans h4.2,h3.2.2.2⟩
 · simp at h
theorem YJ{D E:Pl.Dv}{a b c d:Int}(h:Pl.onD D a b=true)(h1:E.sz=D.sz)(h2:E.cnt=D.cnt)(h3:a≤c)(h4:0≤d)(h5:c+d≤a+b):Pl.onD E c d=true:=by
 have:=Pl.JJ.1 h
 refine Pl.JJ.2 ?_
 rw [h1,h2]
 omega
theorem rdB_le(D:Pl.Dv)(a:Int)(n:Nat):(Pl.rdB D a (n:Int)).length≤n:=by
 unfold Pl.rdB; split <;> simp only [Lg,LA] <;> omega
theorem fdM{w0 w w':World}{X:Bs}{A Zh Zh' R:List (Nat×Blk)}{p p':Nat×Blk}(h:Mem w0 w X (A++(p::(Zh++R))))(hc:Mem w w' (Mn (reals (p::Zh))) (p'::Zh')):Mem w0 w' X (A++(p'::(Zh'++R))):=Mem.callM (Z:=p::Zh) (Z':=p'::Zh') h hc
theorem fdZ{w0 w w':World}{X:Bs}{A Zh Zh' R:List (Nat×Blk)}{p:Nat×Blk}(h:Mem w0 w X (A++(p::(Zh++R))))(hc:Mem w w' (Mn (reals Zh)) Zh'):Mem w0 w' X (A++(p::(Zh'++R))):=by
 have h1:Mem w0 w X ((A++[p])++(Zh++R)):=by simpa using h
 simpa using Mem.callM h1 hc
theorem fdO{w:World}{A Zh R:List (Nat×Blk)}{p:Nat×Blk}(h:Jr w (A++(p::(Zh++R)))):Jr w (p::Zh):=(Jr.right (A:=A) h).left (A:=p::Zh)
theorem fdR{w:World}{A Zh R:List (Nat×Blk)}{p:Nat×Blk}(h:Jr w (A++(p::(Zh++R)))):Jr w R:=(Jr.right (A:=A) h).right (A:=p::Zh)
theorem fdX{w0 w:World}{X:Bs}{A Zh R:List (Nat×Blk)}{p:Nat×Blk}(h:Mem w0 w X (A++(p::(Zh++R)))):Mem w0 w X (A++(p::R)):=
 h.drop (List.Sublist.append_left (List.Sublist.cons_cons _ (List.sublist_append_right _ _)) _)
theorem own_apart{w:World}{A B:List (Nat×Blk)}(h:Jr w (A++B))(k:Nat)(hb:Mn (reals B) k):¬ Mn (reals A) k:=fun ha=>by
 have h1:=h.2
 rw [Qi] at h1
 exact (Kg.1 h1).2.2 _ ha _ hb rfl
theorem fdA{w:World}{A Zh F Zj Zd:List (Nat×Blk)}{p:Nat×Blk}(h:Jr w (A++(p::(Zh++(F++(Zj++Zd)))))):Jr w Zd∧(∀ k,Mn (reals Zd) k→¬ Mn (reals (p::Zh)) k):=by
 have h1:=Jr.right (A:=A) h
 have h2:Jr w ((p::Zh)++(F++(Zj++Zd))):=h1
 have h3:Jr w ((p::Zh)++((F++Zj)++Zd)):=by simpa only [Lp] using h2
 refine ⟨(Jr.right (A:=Zj) (Jr.right (A:=F) (Jr.right (A:=p::Zh) h2))),fun k hk=>own_apart h3 k ?_⟩
 show k∈reals (F++Zj++Zd)
 rw [Qi]; exact Ly _ hk
theorem mn_tail{Z:List (Nat×Blk)}{p:Nat×Blk}{k:Nat}(h:Mn (reals Z) k):Mn (reals (p::Z)) k:=by
 show k∈reals ([p]++Z)
 rw [Qi]; exact Ly _ h
theorem mn_head{Z:List (Nat×Blk)}{n:Nat}{b:Blk}(hb:b.real=true:=by rfl):Mn (reals ((n,b)::Z)) n:=JD.2 ⟨b,Lo,hb⟩
theorem a_exec(K:ApK)(A:Pl.Ap)(pk:Int)(j:Nat)(Zj Zd:List (Nat×Blk))(w0:World)(hK:K.ok)(hs:Sid K A)(hO:Jr w0 (ApR K A pk j::(K.F++(Zj++Zd))))(hj:JZ 271 5 K.md (K.f:Int) K.bnd K.kk A.S j Zj)(hz:JV 112 258 5 A.D K.md Zd)(hsg:A.nx<Pl.JF K.bnd K.cm):CE Tryz.prog 189 [.pointer (some ⟨K.ma,0,none⟩)] w0 (fun v w'=>v=.tuple ⟨[]⟩∧(A.exec K.f K.N K.bnd K.kk K.cm).1=0∧ApO K (A.exec K.f K.N K.bnd K.kk K.cm).2 pk w0 w' (ApR K A pk j::(K.F++(Zj++Zd)))) fun c w'=>(c=errP (A.exec K.f K.N K.bnd K.kk K.cm).1∧(A.exec K.f K.N K.bnd K.kk K.cm).1≠0)∧ApO K (A.exec K.f K.N K.bnd K.kk K.cm).2 pk w0 w' (ApR K A pk j::(K.F++(Zj++Zd))):=by
 have hnx:=hs.nx
 have hfo:=Pl.JJ.1 hs.fo
 have hfn:=Pl.JJ.1 hs.fn
 have hok:=hz.ok
 have hon:=hK.on
 have hbn:=hK.bn
 have hmx:=hK.mx
 have hcl:=hs.cl
 have hex:0≤A.nx∧A.nx<Pl.first K.bnd (K.xs.map CmdV.cm) (K.xs.map CmdV.cm).length:=by rw [hK.xc]; exact ⟨hnx.1,hsg⟩
 refine CE_of Tryz.func189 rfl rfl rfl fun κ _ Je Jc hpan=>?_
 have hm:=hO.start
 refine au 1 ?_
 refine JS (.pure 0 (.pure 1 (.pure 2 (.pure 3 (.pure 4 (.pure 5 (.pure 6 (.pure 7 (.act2 8 (.pure 9 (.pure 10 (.pure 11 (.act 12 (.cut (.act 13 (.pure 14 .done))))))) 12 (.act 8 (.pure 9 (.pure 10 (.pure 11 (.cut (.act 13 (.pure 14 .done)))))))))))))))) No mix (by kernel_rfl) hm fun w hw hm0 hh=>?_
 have hm:=hm0
 refine au 8 ?_
 refine QN ?_ ?_
 ·
  refine ca rfl rfl rfl (p_at A.nx K.mp K.bnd K.pf K.cf K.pb K.cb K.pl K.cl K.xs _ (hK.pl _ (Xs (A:=[_]) hm.Jz)).1 (hK.pl _ (Xs (A:=[_]) hm.Jz)).2.1 (hK.pl _ (Xs (A:=[_]) hm.Jz)).2.2.1 (hK.pl _ (Xs (A:=[_]) hm.Jz)).2.2.2.1 hK.fw (by omega) (hK.pl _ (Xs (A:=[_]) hm.Jz)).2.2.2.2 (by simp only [Pl.I64]; omega) (by simp only [Pl.I64]; omega)) fun v w hR=>?_
  obtain ⟨ix,kx,d,p_u,n_u,cap_u,g_u,b_u,rfl,ha_u,hmc,hin,_⟩:=hR
  obtain ⟨rfl,hk9,hst⟩:=hin hex
  obtain rfl:=ha_u.J0
  have hd:Pl.JB K.bnd K.cm A.nx.toNat=d:=by unfold Pl.JB; rw [← hK.xc,hst]; rfl
  have hck:=hK.ck _ (Ld (hK.xc▸hst))
  simp only at hck
  obtain ⟨oa,hoa⟩:∃ x:Nat,d.to=x:=⟨d.to.toNat,by omega⟩
  refine ⟨hh.ext hmc.to,?_⟩
  replace hh:=hh.ext hmc.to
  replace hm:=hm.Jt hmc
  refine au 3 ?_
  refine al hm hh fun t w hg_t hm hh=>?_
  refine au 1 ?_
  refine st hm 0 fun w hm=>?_
  refine au 16 ?_
  refine cA rfl rfl rfl (VI d p_u cap_u _) hm fun w hm=>?_
  refine au 3 ?_
  refine aT hm fun sr w hm=>?_
  refine st hm 0 fun w hm=>?_
  refine au 8 ?_
  refine cd (fun hc0=>?_) fun hc0=>?_
  ·
   simp only [dT] at hc0
   have hck1:=hck.2.1 hc0
   obtain ⟨fa,hfa⟩:∃ x:Nat,d.fr=x:=⟨d.fr.toNat,by omega⟩
   obtain ⟨fl,hfl⟩:∃ x:Nat,d.ln=x:=⟨d.ln.toNat,by omega⟩
   have hBl:(Pl.rdB A.D (fa:Int) (fl:Int)).length≤fl:=rdB_le _ _ _
   have hpk:max pk ((Pl.rdB A.D (fa:Int) (fl:Int)).length:Int)≤max pk K.bnd:=by omega
   have honB:Pl.onD A.D (oa:Int) ((Pl.rdB A.D (fa:Int) (fl:Int)).length:Int)=true:=Pl.JJ.2 (by omega)
   have hBk:((Pl.rdB A.D (fa:Int) (fl:Int)).length:Int)≤K.bnd:=by omega
   have hbt:A.bts d=(Pl.rdB A.D (fa:Int) (fl:Int)):=by unfold Pl.Ap.bts; rw [LI hc0,hfa,hfl]
   have hex2:A.exec K.f K.N K.bnd K.kk K.cm=A.put (Pl.japp A.D K.f K.N K.bnd A.S (Pl.jmk A.S K.kk A.nx d.to (Pl.rdB A.D (fa:Int) (fl:Int)))) d.to (Pl.rdB A.D (fa:Int) (fl:Int)):=by unfold Pl.Ap.exec; rw [hd,hbt]
   rw [show ∀ J,A.put J d.to (Pl.rdB A.D (fa:Int) (fl:Int))=if J.1≠0 then (J.1,⟨J.2.1,J.2.2,A.st,A.nx,A.sg⟩) else if (Pl.wrF J.2.1 d.to.toNat (Pl.rdB A.D (fa:Int) (fl:Int))).1≠0 then ((Pl.wrF J.2.1 d.to.toNat (Pl.rdB A.D (fa:Int) (fl:Int))).1,⟨(Pl.wrF J.2.1 d.to.toNat (Pl.rdB A.D (fa:Int) (fl:Int))).2,J.2.2,A.st,A.nx,A.sg⟩) else (0,⟨(Pl.wrF J.2.1 d.to.toNat (Pl.rdB A.D (fa:Int) (fl:Int))).2,J.2.2,1,A.nx+1,false⟩) from fun _=>rfl,hoa,LD,← hoa] at hex2
   refine dw [0,3,6,9,2,13,15] hm fun w hw hm0 hh hm=>?_
   refine au 3 ?_
   refine Ja rfl rfl (y_v (Jm (s:=2) (vs:=[_,_]) rfl ag32.h (hm0.nd 0 rfl id) rfl) (LM (fun x=>Value.agg ⟨x⟩) (by unfold Pl.csrc; rw [LI hc0,hfa,hfl]; rfl:Q9 (Pl.csrc d)=[.int .i64 (fa:Int),.int .i64 (fl:Int)]))) ?_
   refine au 1 ?_
   refine cT rfl rfl rfl (a_read A.D K.md Zd K.ma K.bnd pk _ fa fl _ (ownJ (A:=[_,_,_,_]) hm.Jz).right hz (hm.get (k:=3) rfl) (apNo (A:=[_,_,_,_]) (k:=3) hm rfl) (Pl.JJ.2 (by omega)) hs.dn) fun v w hR=>?_
   obtain ⟨p_r,cap_r,g_r,b_r,rfl,ha_r,hmc⟩:=hR
   replace hm:=hm.Qv (N:=[(g_r,b_r)]) 3 rfl (hmc.pick [1,0] rfl)
   refine au 4 ?_
   refine dw [0,3,6,9,12,15,18,21,24,27,30,33,37,2,40,43] hm fun w hw hm0 hh hm=>?_
   refine au 12 ?_
   refine Jb (l:=[_]) rfl rfl sl88.h z22.h rfl rfl rfl rfl rfl rfl rfl hm hh fun m5 w hg_m5 hm hh=>?_
   refine au 1 ?_
   refine cT rfl rfl rfl (YM A.D K.md Zd A.S j Zj K.f K.N K.bnd K.kk A.nx d.to _ 1 [⟨p_r,cap_r,(Pl.rdB A.D (fa:Int) (fl:Int))⟩] (Pl.rdB A.D (fa:Int) (fl:Int)) _ (ownJ (A:=[_,_,_,_,_,_]) hm.Jz) hz hj (by simp only [Pl.I64]; omega) hs.sl hK.n0 hs.h2 hs.hS hK.k64 (by simp only [Pl.I64]; omega) (by simp only [Pl.I64]; omega) (Rd.JL (hm.get (k:=0) rfl)) (by intro s9 hs9; rw [Lf.1 hs9]; exact ha_r.rd hm 1 rfl) (by simp) (by simp) (by omega) (by omega)) fun v w hR=>?_
   obtain ⟨rfl,Zj1,Zd1,hj1,hz1,hmc⟩:=hR
   replace hm:=apJ (A:=[_,_,_,_,_,_]) hm hmc
   refine Vo rfl rfl rfl go235 (YZ _ _) (fun c w hE a hfa=>hpan c a w hfa.defers ?_) fun v w hR=>?_
   ·
    obtain ⟨⟨rfl,he9⟩,hE⟩:=hE
    rw [hex2,LI he9]
    exact ⟨⟨rfl,he9⟩,.mk hpk hj1 hz1 ((hm.Jp [5] 6 rfl).ext hE)⟩
   obtain ⟨⟨rfl,he9⟩,hE⟩:=hR
   refine ⟨trivial,?_⟩
   replace hm:=hm.ext hE
   have hj0:=japp_ok0 he9
   refine au 3 ?_
   refine dw [0,3,6,9,12,15,18,2,22] hm fun w hw hm0 hh hm=>?_
   refine au 5 ?_
   refine Ja rfl rfl (y_v (Jh rfl sc3.h (hm0.nd 3 rfl id) rfl) (LM (Value.int .i64) hoa)) ?_
   refine au 2 ?_
   refine Vo rfl rfl rfl go237 (a_write _ K.md Zd1 K.ma _ oa p_r cap_r (Pl.rdB A.D (fa:Int) (fl:Int)) _ (ownJ (A:=[_,_,_,_,_,_]) hm.Jz).right hz1 (hm.get (k:=5) rfl) (apNo (A:=[_,_,_,_,_,_]) (k:=5) hm rfl) (YJ honB hj0.2.1 hj0.2.2.1 (Int.le_refl _) (by omega) (by omega)) (ha_r.rd hm 1 rfl) (fun h9 ad h8=>by obtain ⟨h7,h6⟩:=ha_r.at9 h9; rw [h7] at h8; cases h8; exact apNo (A:=[_,_,_,_,_,_]) (k:=1) hm rfl h6) (by omega) (by rw [hj0.2.2.1,hj0.2.2.2]; simp only [LA]; omega)) (fun c w hE a hfa=>hpan c a w hfa.defers ?_) fun v w hR=>?_
   ·
    obtain ⟨⟨rfl,he8⟩,Zd2,hz2,hmc⟩:=hE
    rw [hex2,LH (fun h=>h he9),LI he8]
    exact ⟨⟨rfl,he8⟩,.mk hpk hj1 hz2 (apD (A:=[_]) (hm.Jp [5] 6 rfl) hmc)⟩
   obtain ⟨⟨rfl,he8⟩,Zd2,hz2,hmc⟩:=hR
   refine ⟨trivial,?_⟩
   replace hm:=apD (A:=[_,_,_,_,_,_]) hm hmc
   refine au 4 ?_
   refine cT rfl rfl rfl (a_adv K ⟨(Pl.wrF (Pl.japp A.D K.f K.N K.bnd A.S (Pl.jmk A.S K.kk A.nx d.to (Pl.rdB A.D (fa:Int) (fl:Int)))).2.1 oa (Pl.rdB A.D (fa:Int) (fl:Int))).2,(Pl.japp A.D K.f K.N K.bnd A.S (Pl.jmk A.S K.kk A.nx d.to (Pl.rdB A.D (fa:Int) (fl:Int)))).2.2,A.st,A.nx,A.sg⟩ (max pk ((Pl.rdB A.D (fa:Int) (fl:Int)).length:Int)) j _ (hm.get (k:=5) rfl) (by simp only; rw [← hK.xc] at hnx; simp only [Pl.JF] at hnx; omega)) fun v w hR=>?_
   obtain ⟨rfl,hmc⟩:=hR
   replace hm:=hm.Qv (N:=[]) 5 rfl hmc
   refine au 1 ?_
   refine toN (fin Jc rfl .nil .nil ?_)
   rw [hex2,LH (fun h=>h he9),LH (fun h=>h he8)]
   exact ⟨rfl,rfl,.mk hpk hj1 hz2 (hm.Jp [5] 6 rfl)⟩
  ·
   simp only [dF] at hc0
   have hck1:=hck.2.2 hc0
   have hpk:pk≤max pk K.bnd:=Int.le_max_left ..
   have honB:Pl.onD A.D (oa:Int) (d.bs.length:Int)=true:=Pl.JJ.2 (by omega)
   have hBk:(d.bs.length:Int)≤K.bnd:=by omega
   have hbt:A.bts d=d.bs:=by unfold Pl.Ap.bts; rw [LH hc0]
   have hex2:A.exec K.f K.N K.bnd K.kk K.cm=A.put (Pl.japp A.D K.f K.N K.bnd A.S (Pl.jmk A.S K.kk A.nx d.to d.bs)) d.to d.bs:=by unfold Pl.Ap.exec; rw [hd,hbt]
   rw [show ∀ J,A.put J d.to d.bs=if J.1≠0 then (J.1,⟨J.2.1,J.2.2,A.st,A.nx,A.sg⟩) else if (Pl.wrF J.2.1 d.to.toNat d.bs).1≠0 then ((Pl.wrF J.2.1 d.to.toNat d.bs).1,⟨(Pl.wrF J.2.1 d.to.toNat d.bs).2,J.2.2,A.st,A.nx,A.sg⟩) else (0,⟨(Pl.wrF J.2.1 d.to.toNat d.bs).2,J.2.2,1,A.nx+1,false⟩) from fun _=>rfl,hoa,LD,← hoa] at hex2
   refine au 3 ?_
   refine dw [0,3,6,9,12,15,18,21,24,27,30,33,37,2,40,43] hm fun w hw hm0 hh hm=>?_
   refine au 12 ?_
   refine Jb (l:=[_]) rfl rfl sl88.h z22.h rfl rfl rfl rfl rfl rfl rfl hm hh fun m5 w hg_m5 hm hh=>?_
   refine au 1 ?_
   refine cT rfl rfl rfl (YM A.D K.md Zd A.S j Zj K.f K.N K.bnd K.kk A.nx d.to _ 1 [⟨p_u,cap_u,d.bs⟩] d.bs _ (ownJ (A:=[_,_,_,_,_]) hm.Jz) hz hj (by simp only [Pl.I64]; omega) hs.sl hK.n0 hs.h2 hs.hS hK.k64 (by simp only [Pl.I64]; omega) (by simp only [Pl.I64]; omega) (Rd.JL (hm.get (k:=0) rfl)) (by intro s9 hs9; rw [Lf.1 hs9]; exact ha_u.rd hm 3 rfl) (by simp) (by simp) (by omega) (by omega)) fun v w hR=>?_
   obtain ⟨rfl,Zj1,Zd1,hj1,hz1,hmc⟩:=hR
   replace hm:=apJ (A:=[_,_,_,_,_]) hm hmc
   refine Vo rfl rfl rfl go235 (YZ _ _) (fun c w hE a hfa=>hpan c a w hfa.defers ?_) fun v w hR=>?_
   ·
    obtain ⟨⟨rfl,he9⟩,hE⟩:=hE
    rw [hex2,LI he9]
    exact ⟨⟨rfl,he9⟩,.mk hpk hj1 hz1 ((hm.Jp [4] 5 rfl).ext hE)⟩
   obtain ⟨⟨rfl,he9⟩,hE⟩:=hR
   refine ⟨trivial,?_⟩
   replace hm:=hm.ext hE
   have hj0:=japp_ok0 he9
   refine au 3 ?_
   refine dw [0,3,6,9,12,15,18,2,22] hm fun w hw hm0 hh hm=>?_
   refine au 5 ?_
   refine Ja rfl rfl (y_v (Jh rfl sc3.h (hm0.nd 2 rfl id) rfl) (LM (Value.int .i64) hoa)) ?_
   refine au 2 ?_
   refine Vo rfl rfl rfl go237 (a_write _ K.md Zd1 K.ma _ oa p_u cap_u d.bs _ (ownJ (A:=[_,_,_,_,_]) hm.Jz).right hz1 (hm.get (k:=4) rfl) (apNo (A:=[_,_,_,_,_]) (k:=4) hm rfl) (YJ honB hj0.2.1 hj0.2.2.1 (Int.le_refl _) (by omega) (by omega)) (ha_u.rd hm 3 rfl) (fun h9 ad h8=>by obtain ⟨h7,h6⟩:=ha_u.at9 h9; rw [h7] at h8; cases h8; exact apNo (A:=[_,_,_,_,_]) (k:=3) hm rfl h6) (by omega) (by rw [hj0.2.2.1,hj0.2.2.2]; simp only [LA]; omega)) (fun c w hE a hfa=>hpan c a w hfa.defers ?_) fun v w hR=>?_
   ·
    obtain ⟨⟨rfl,he8⟩,Zd2,hz2,hmc⟩:=hE
    rw [hex2,LH (fun h=>h he9),LI he8]
    exact ⟨⟨rfl,he8⟩,.mk hpk hj1 hz2 (apD (A:=[_]) (hm.Jp [4] 5 rfl) hmc)⟩
   obtain ⟨⟨rfl,he8⟩,Zd2,hz2,hmc⟩:=hR
   refine ⟨trivial,?_⟩
   replace hm:=apD (A:=[_,_,_,_,_]) hm hmc
   refine au 4 ?_
   refine cT rfl rfl rfl (a_adv K ⟨(Pl.wrF (Pl.japp A.D K.f K.N K.bnd A.S (Pl.jmk A.S K.kk A.nx d.to d.bs)).2.1 oa d.bs).2,(Pl.japp A.D K.f K.N K.bnd A.S (Pl.jmk A.S K.kk A.nx d.to d.bs)).2.2,A.st,A.nx,A.sg⟩ pk j _ (hm.get (k:=4) rfl) (by simp only; rw [← hK.xc] at hnx; simp only [Pl.JF] at hnx; omega)) fun v w hR=>?_
   obtain ⟨rfl,hmc⟩:=hR
   replace hm:=hm.Qv (N:=[]) 4 rfl hmc
   refine au 1 ?_
   refine toN (fin Jc rfl .nil .nil ?_)
   rw [hex2,LH (fun h=>h he9),LH (fun h=>h he8)]
   exact ⟨rfl,rfl,.mk hpk hj1 hz2 (hm.Jp [4] 5 rfl)⟩
 ·
  refine al hm hh fun t w hg_t hm hh=>?_
  refine ca rfl rfl rfl (p_at A.nx K.mp K.bnd K.pf K.cf K.pb K.cb K.pl K.cl K.xs _ (hK.pl _ (Xs (A:=[_,_]) hm.Jz)).1 (hK.pl _ (Xs (A:=[_,_]) hm.Jz)).2.1 (hK.pl _ (Xs (A:=[_,_]) hm.Jz)).2.2.1 (hK.pl _ (Xs (A:=[_,_]) hm.Jz)).2.2.2.1 hK.fw (by omega) (hK.pl _ (Xs (A:=[_,_]) hm.Jz)).2.2.2.2 (by simp only [Pl.I64]; omega) (by simp only [Pl.I64]; omega)) fun v w hR=>?_
  obtain ⟨ix,kx,d,p_u,n_u,cap_u,g_u,b_u,rfl,ha_u,hmc,hin,_⟩:=hR
  obtain ⟨rfl,hk9,hst⟩:=hin hex
  obtain rfl:=ha_u.J0
  have hd:Pl.JB K.bnd K.cm A.nx.toNat=d:=by unfold Pl.JB; rw [← hK.xc,hst]; rfl
  have hck:=hK.ck _ (Ld (hK.xc▸hst))
  simp only at hck
  obtain ⟨oa,hoa⟩:∃ x:Nat,d.to=x:=⟨d.to.toNat,by omega⟩
  refine ⟨hh.ext hmc.to,?_⟩
  replace hh:=hh.ext hmc.to
  replace hm:=hm.Jt hmc
  refine au 4 ?_
  refine st hm 1 fun w hm=>?_
  refine au 16 ?_
  refine cA rfl rfl rfl (VI d p_u cap_u _) hm fun w hm=>?_
  refine au 3 ?_
  refine aT hm fun sr w hm=>?_
  refine st hm 0 fun w hm=>?_
  refine au 8 ?_
  refine cd (fun hc0=>?_) fun hc0=>?_
  ·
   simp only [dT] at hc0
   have hck1:=hck.2.1 hc0
   obtain ⟨fa,hfa⟩:∃ x:Nat,d.fr=x:=⟨d.fr.toNat,by omega⟩
   obtain ⟨fl,hfl⟩:∃ x:Nat,d.ln=x:=⟨d.ln.toNat,by omega⟩
   have hBl:(Pl.rdB A.D (fa:Int) (fl:Int)).length≤fl:=rdB_le _ _ _
   have hpk:max pk ((Pl.rdB A.D (fa:Int) (fl:Int)).length:Int)≤max pk K.bnd:=by omega
   have honB:Pl.onD A.D (oa:Int) ((Pl.rdB A.D (fa:Int) (fl:Int)).length:Int)=true:=Pl.JJ.2 (by omega)
   have hBk:((Pl.rdB A.D (fa:Int) (fl:Int)).length:Int)≤K.bnd:=by omega
   have hbt:A.bts d=(Pl.rdB A.D (fa:Int) (fl:Int)):=by unfold Pl.Ap.bts; rw [LI hc0,hfa,hfl]
   have hex2:A.exec K.f K.N K.bnd K.kk K.cm=A.put (Pl.japp A.D K.f K.N K.bnd A.S (Pl.jmk A.S K.kk A.nx d.to (Pl.rdB A.D (fa:Int) (fl:Int)))) d.to (Pl.rdB A.D (fa:Int) (fl:Int)):=by unfold Pl.Ap.exec; rw [hd,hbt]
   rw [show ∀ J,A.put J d.to (Pl.rdB A.D (fa:Int) (fl:Int))=if J.1≠0 then (J.1,⟨J.2.1,J.2.2,A.st,A.nx,A.sg⟩) else if (Pl.wrF J.2.1 d.to.toNat (Pl.rdB A.D (fa:Int) (fl:Int))).1≠0 then ((Pl.wrF J.2.1 d.to.toNat (Pl.rdB A.D (fa:Int) (fl:Int))).1,⟨(Pl.wrF J.2.1 d.to.toNat (Pl.rdB A.D (fa:Int) (fl:Int))).2,J.2.2,A.st,A.nx,A.sg⟩) else (0,⟨(Pl.wrF J.2.1 d.to.toNat (Pl.rdB A.D (fa:Int) (fl:Int))).2,J.2.2,1,A.nx+1,false⟩) from fun _=>rfl,hoa,LD,← hoa] at hex2
   refine dw [0,3,6,9,2,13,15] hm fun w hw hm0 hh hm=>?_
   refine au 3 ?_
   refine Ja rfl rfl (y_v (Jm (s:=2) (vs:=[_,_]) rfl ag32.h (hm0.nd 0 rfl id) rfl) (LM (fun x=>Value.agg ⟨x⟩) (by unfold Pl.csrc; rw [LI hc0,hfa,hfl]; rfl:Q9 (Pl.csrc d)=[.int .i64 (fa:Int),.int .i64 (fl:Int)]))) ?_
   refine au 1 ?_
   refine cT rfl rfl rfl (a_read A.D K.md Zd K.ma K.bnd pk _ fa fl _ (ownJ (A:=[_,_,_,_]) hm.Jz).right hz (hm.get (k:=3) rfl) (apNo (A:=[_,_,_,_]) (k:=3) hm rfl) (Pl.JJ.2 (by omega)) hs.dn) fun v w hR=>?_
   obtain ⟨p_r,cap_r,g_r,b_r,rfl,ha_r,hmc⟩:=hR
   replace hm:=hm.Qv (N:=[(g_r,b_r)]) 3 rfl (hmc.pick [1,0] rfl)
   refine au 4 ?_
   refine dw [0,3,6,9,12,15,18,21,24,27,30,33,37,2,40,43] hm fun w hw hm0 hh hm=>?_
   refine au 12 ?_
   refine Jb (l:=[_]) rfl rfl sl88.h z22.h rfl rfl rfl rfl rfl rfl rfl hm hh fun m5 w hg_m5 hm hh=>?_
   refine au 1 ?_
   refine cT rfl rfl rfl (YM A.D K.md Zd A.S j Zj K.f K.N K.bnd K.kk A.nx d.to _ 1 [⟨p_r,cap_r,(Pl.rdB A.D (fa:Int) (fl:Int))⟩] (Pl.rdB A.D (fa:Int) (fl:Int)) _ (ownJ (A:=[_,_,_,_,_,_]) hm.Jz) hz hj (by simp only [Pl.I64]; omega) hs.sl hK.n0 hs.h2 hs.hS hK.k64 (by simp only [Pl.I64]; omega) (by simp only [Pl.I64]; omega) (Rd.JL (hm.get (k:=0) rfl)) (by intro s9 hs9; rw [Lf.1 hs9]; exact ha_r.rd hm 1 rfl) (by simp) (by simp) (by omega) (by omega)) fun v w hR=>?_
   obtain ⟨rfl,Zj1,Zd1,hj1,hz1,hmc⟩:=hR
   replace hm:=apJ (A:=[_,_,_,_,_,_]) hm hmc
   refine Vo rfl rfl rfl go235 (YZ _ _) (fun c w hE a hfa=>hpan c a w hfa.defers ?_) fun v w hR=>?_
   ·
    obtain ⟨⟨rfl,he9⟩,hE⟩:=hE
    rw [hex2,LI he9]
    exact ⟨⟨rfl,he9⟩,.mk hpk hj1 hz1 ((hm.Jp [5] 6 rfl).ext hE)⟩
   obtain ⟨⟨rfl,he9⟩,hE⟩:=hR
   refine ⟨trivial,?_⟩
   replace hm:=hm.ext hE
   have hj0:=japp_ok0 he9
   refine au 3 ?_
   refine dw [0,3,6,9,12,15,18,2,22] hm fun w hw hm0 hh hm=>?_
   refine au 5 ?_
   refine Ja rfl rfl (y_v (Jh rfl sc3.h (hm0.nd 4 rfl id) rfl) (LM (Value.int .i64) hoa)) ?_
   refine au 2 ?_
   refine Vo rfl rfl rfl go237 (a_write _ K.md Zd1 K.ma _ oa p_r cap_r (Pl.rdB A.D (fa:Int) (fl:Int)) _ (ownJ (A:=[_,_,_,_,_,_]) hm.Jz).right hz1 (hm.get (k:=5) rfl) (apNo (A:=[_,_,_,_,_,_]) (k:=5) hm rfl) (YJ honB hj0.2.1 hj0.2.2.1 (Int.le_refl _) (by omega) (by omega)) (ha_r.rd hm 1 rfl) (fun h9 ad h8=>by obtain ⟨h7,h6⟩:=ha_r.at9 h9; rw [h7] at h8; cases h8; exact apNo (A:=[_,_,_,_,_,_]) (k:=1) hm rfl h6) (by omega) (by rw [hj0.2.2.1,hj0.2.2.2]; simp only [LA]; omega)) (fun c w hE a hfa=>hpan c a w hfa.defers ?_) fun v w hR=>?_
   ·
    obtain ⟨⟨rfl,he8⟩,Zd2,hz2,hmc⟩:=hE
    rw [hex2,LH (fun h=>h he9),LI he8]
    exact ⟨⟨rfl,he8⟩,.mk hpk hj1 hz2 (apD (A:=[_]) (hm.Jp [5] 6 rfl) hmc)⟩
   obtain ⟨⟨rfl,he8⟩,Zd2,hz2,hmc⟩:=hR
   refine ⟨trivial,?_⟩
   replace hm:=apD (A:=[_,_,_,_,_,_]) hm hmc
   refine au 4 ?_
   refine cT rfl rfl rfl (a_adv K ⟨(Pl.wrF (Pl.japp A.D K.f K.N K.bnd A.S (Pl.jmk A.S K.kk A.nx d.to (Pl.rdB A.D (fa:Int) (fl:Int)))).2.1 oa (Pl.rdB A.D (fa:Int) (fl:Int))).2,(Pl.japp A.D K.f K.N K.bnd A.S (Pl.jmk A.S K.kk A.nx d.to (Pl.rdB A.D (fa:Int) (fl:Int)))).2.2,A.st,A.nx,A.sg⟩ (max pk ((Pl.rdB A.D (fa:Int) (fl:Int)).length:Int)) j _ (hm.get (k:=5) rfl) (by simp only; rw [← hK.xc] at hnx; simp only [Pl.JF] at hnx; omega)) fun v w hR=>?_
   obtain ⟨rfl,hmc⟩:=hR
   replace hm:=hm.Qv (N:=[]) 5 rfl hmc
   refine au 1 ?_
   refine toN (fin Jc rfl .nil .nil ?_)
   rw [hex2,LH (fun h=>h he9),LH (fun h=>h he8)]
   exact ⟨rfl,rfl,.mk hpk hj1 hz2 (hm.Jp [5] 6 rfl)⟩
  ·
   simp only [dF] at hc0
   have hck1:=hck.2.2 hc0
   have hpk:pk≤max pk K.bnd:=Int.le_max_left ..
   have honB:Pl.onD A.D (oa:Int) (d.bs.length:Int)=true:=Pl.JJ.2 (by omega)
   have hBk:(d.bs.length:Int)≤K.bnd:=by omega
   have hbt:A.bts d=d.bs:=by unfold Pl.Ap.bts; rw [LH hc0]
   have hex2:A.exec K.f K.N K.bnd K.kk K.cm=A.put (Pl.japp A.D K.f K.N K.bnd A.S (Pl.jmk A.S K.kk A.nx d.to d.bs)) d.to d.bs:=by unfold Pl.Ap.exec; rw [hd,hbt]
   rw [show ∀ J,A.put J d.to d.bs=if J.1≠0 then (J.1,⟨J.2.1,J.2.2,A.st,A.nx,A.sg⟩) else if (Pl.wrF J.2.1 d.to.toNat d.bs).1≠0 then ((Pl.wrF J.2.1 d.to.toNat d.bs).1,⟨(Pl.wrF J.2.1 d.to.toNat d.bs).2,J.2.2,A.st,A.nx,A.sg⟩) else (0,⟨(Pl.wrF J.2.1 d.to.toNat d.bs).2,J.2.2,1,A.nx+1,false⟩) from fun _=>rfl,hoa,LD,← hoa] at hex2
   refine au 3 ?_
   refine dw [0,3,6,9,12,15,18,21,24,27,30,33,37,2,40,43] hm fun w hw hm0 hh hm=>?_
   refine au 12 ?_
   refine Jb (l:=[_]) rfl rfl sl88.h z22.h rfl rfl rfl rfl rfl rfl rfl hm hh fun m5 w hg_m5 hm hh=>?_
   refine au 1 ?_
   refine cT rfl rfl rfl (YM A.D K.md Zd A.S j Zj K.f K.N K.bnd K.kk A.nx d.to _ 1 [⟨p_u,cap_u,d.bs⟩] d.bs _ (ownJ (A:=[_,_,_,_,_]) hm.Jz) hz hj (by simp only [Pl.I64]; omega) hs.sl hK.n0 hs.h2 hs.hS hK.k64 (by simp only [Pl.I64]; omega) (by simp only [Pl.I64]; omega) (Rd.JL (hm.get (k:=0) rfl)) (by intro s9 hs9; rw [Lf.1 hs9]; exact ha_u.rd hm 2 rfl) (by simp) (by simp) (by omega) (by omega)) fun v w hR=>?_
   obtain ⟨rfl,Zj1,Zd1,hj1,hz1,hmc⟩:=hR
   replace hm:=apJ (A:=[_,_,_,_,_]) hm hmc
   refine Vo rfl rfl rfl go235 (YZ _ _) (fun c w hE a hfa=>hpan c a w hfa.defers ?_) fun v w hR=>?_
   ·
    obtain ⟨⟨rfl,he9⟩,hE⟩:=hE
    rw [hex2,LI he9]
    exact ⟨⟨rfl,he9⟩,.mk hpk hj1 hz1 ((hm.Jp [4] 5 rfl).ext hE)⟩
   obtain ⟨⟨rfl,he9⟩,hE⟩:=hR
   refine ⟨trivial,?_⟩
   replace hm:=hm.ext hE
   have hj0:=japp_ok0 he9
   refine au 3 ?_
   refine dw [0,3,6,9,12,15,18,2,22] hm fun w hw hm0 hh hm=>?_
   refine au 5 ?_
   refine Ja rfl rfl (y_v (Jh rfl sc3.h (hm0.nd 3 rfl id) rfl) (LM (Value.int .i64) hoa)) ?_
   refine au 2 ?_
   refine Vo rfl rfl rfl go237 (a_write _ K.md Zd1 K.ma _ oa p_u cap_u d.bs _ (ownJ (A:=[_,_,_,_,_]) hm.Jz).right hz1 (hm.get (k:=4) rfl) (apNo (A:=[_,_,_,_,_]) (k:=4) hm rfl) (YJ honB hj0.2.1 hj0.2.2.1 (Int.le_refl _) (by omega) (by omega)) (ha_u.rd hm 2 rfl) (fun h9 ad h8=>by obtain ⟨h7,h6⟩:=ha_u.at9 h9; rw [h7] at h8; cases h8; exact apNo (A:=[_,_,_,_,_]) (k:=2) hm rfl h6) (by omega) (by rw [hj0.2.2.1,hj0.2.2.2]; simp only [LA]; omega)) (fun c w hE a hfa=>hpan c a w hfa.defers ?_) fun v w hR=>?_
   ·
    obtain ⟨⟨rfl,he8⟩,Zd2,hz2,hmc⟩:=hE
    rw [hex2,LH (fun h=>h he9),LI he8]
    exact ⟨⟨rfl,he8⟩,.mk hpk hj1 hz2 (apD (A:=[_]) (hm.Jp [4] 5 rfl) hmc)⟩
   obtain ⟨⟨rfl,he8⟩,Zd2,hz2,hmc⟩:=hR
   refine ⟨trivial,?_⟩
   replace hm:=apD (A:=[_,_,_,_,_]) hm hmc
   refine au 4 ?_
   refine cT rfl rfl rfl (a_adv K ⟨(Pl.wrF (Pl.japp A.D K.f K.N K.bnd A.S (Pl.jmk A.S K.kk A.nx d.to d.bs)).2.1 oa d.bs).2,(Pl.japp A.D K.f K.N K.bnd A.S (Pl.jmk A.S K.kk A.nx d.to d.bs)).2.2,A.st,A.nx,A.sg⟩ pk j _ (hm.get (k:=4) rfl) (by simp only; rw [← hK.xc] at hnx; simp only [Pl.JF] at hnx; omega)) fun v w hR=>?_
   obtain ⟨rfl,hmc⟩:=hR
   replace hm:=hm.Qv (N:=[]) 4 rfl hmc
   refine au 1 ?_
   refine toN (fin Jc rfl .nil .nil ?_)
   rw [hex2,LH (fun h=>h he9),LH (fun h=>h he8)]
   exact ⟨rfl,rfl,.mk hpk hj1 hz2 (hm.Jp [4] 5 rfl)⟩
end Go.Proofs.YtaehgpeenaomcaaGreat
