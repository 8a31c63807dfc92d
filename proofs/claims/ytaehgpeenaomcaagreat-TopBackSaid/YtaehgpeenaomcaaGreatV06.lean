/- Part 7 of the proof of TopBack: Sha Chn Pln PlnN Fio. Conditions: the hypotheses of each theorem. -/
import Derived.Test.YtaehgpeenaomcaaGreatV05
import Derived.Test.YtaehgpeenaomcaaGreatChecked
set_option maxRecDepth 10000
set_option maxHeartbeats 4000000
set_option linter.unusedVariables false
set_option linter.unusedSimpArgs false
namespace Go.Proofs.YtaehgpeenaomcaaGreat
open Go Go.Cx
theorem XP(x:UInt32)(j:Nat)(w0:World)(h1:1≤j)(h2:j<32):C Tryz.prog 116 [.int .u32 ((x).toNat:Int),.int .i64 (-(j:Int))] w0 fun v w'=>v=.int .u32 ((Pl.iX x (UInt32.ofNat j)).toNat:Int)∧Ext No w0 w':=by
 refine aH Tryz.func116 fun κ _ Je Jc hm=>?_
 refine au 2 ?_
 refine Ja rfl rfl (J4 (cW 0 rfl))<|au 5 ?_
 refine Ja rfl rfl (JX rfl is3 it151 rfl)<|Ja rfl rfl (VA rfl rfl (Sz h1 h2))<|au 7 ?_
 refine Ja rfl rfl (so rfl rfl Ta (xL (UInt32.ofNat (32-j)) (by rw [oN Ta]) (by rw [oN Ta]; omega)))<|au 2 ?_
 refine Ja rfl rfl (QR rfl rfl (Su (a:=32) Ta Tb))<|Ja rfl rfl (V1 rfl rfl Ta (Yz (UInt32.ofNat j) (by rw [oN h2]; omega) (by rw [oN h2]; omega)))<|Ja rfl rfl (kX rfl rfl zD)<|au 5 ?_
 exact ⟨by rw [← MX x h1 h2],hm.to⟩
theorem Nx(w0:World):C Tryz.prog 115 [] w0 fun v w'=>v=.agg ⟨Pl.qK.flatMap Zn⟩∧Ext No w0 w':=by
 refine aH Tryz.func115 fun κ _ Je Jc hm=>?_
 refine au 2 ?_
 refine aT hm fun m1 w hm=>?_
 refine au 4 ?_
 refine Ja rfl rfl (Qe (cs:=[_,_,_,_,_,_,_,_,_,_,_,_,_,_,_,_,_,_,_,_,_,_,_,_,_,_,_,_,_,_,_,_,_,_,_,_,_,_,_,_,_,_,_,_,_,_,_,_,_,_,_,_,_,_,_,_,_,_,_,_,_,_,_,_]) z187.h ft187.h rfl rfl rfl rfl rfl)<|st hm 0 fun w hm=>?_
 refine au 3 ?_
 refine dD (fin Je rfl (.cell rfl (Ju (vs:=[_,_,_,_,_,_,_,_,_,_,_,_,_,_,_,_,_,_,_,_,_,_,_,_,_,_,_,_,_,_,_,_,_,_,_,_,_,_,_,_,_,_,_,_,_,_,_,_,_,_,_,_,_,_,_,_,_,_,_,_,_,_,_,_]) ag187.h (hm.get (k:=0) rfl) rfl) .nil) .one ?_)
 exact ⟨rfl,hm.to⟩
theorem Hc(TT m:Nat)(s:Pl.S8)(rv:Value)(n:Int)(p:Tg)(cap:Nat)(bs:Th)(w0:World)(hP:w0.heap[m]?=some (ag.row TT (tA s rv n)).Jd)(hx:Rd w0 p (bs.flatMap Jk))(sb:bs.flatMap Jk≠[]→∀ ad,p=some ad→¬ (ad.block=m))(hl:bs.length=64):C Tryz.prog 89 [.pointer (some ⟨m,0,none⟩),.slice p 64 cap] w0 fun v w'=>v=.tuple ⟨[]⟩∧Mem w0 w' (fun k=>k=m) [(m,.row TT (tA (Pl.xP s bs) rv n))]:=by
 obtain ⟨x0_,ja3⟩:∃ y_,bs[0]?=some y_:=⟨_,La Ta⟩
 obtain ⟨b2,o2,Kt⟩:=hx.bS JG Tb ja3
 refine Vk Tryz.func89 rfl rfl rfl fun κ _ Je Jc=>?_
 have hm:=Mem.Vq hP
 refine au 2 ?_
 refine aT hm fun m1 w hm=>?_
 refine au 9 ?_
 refine Jg (ι:=Nat) rfl (ks:=[0,1,4]) Tn (fun x=>[(21,.int .i64 x)]) (fun x w=>Mem w0 w (fun k=>k=m) [(m1,.row 186 ((Pl.V8 bs x++List.replicate (16-x) 0).flatMap Zn)),(m,(.row TT (tA s rv n)))]∧x≤16) (fun x=>16-x) 0 (⟨hm,LL _⟩) Tm (fun x w hM=>?_)
 obtain ⟨hm,hk⟩:=hM
 refine au 6 ?_
 refine cd (fun ai=>?_) fun ai=>?_
 ·
  simp only [dT] at ai
  obtain ⟨c0,nM⟩:∃ y_,bs[4*x+0]?=some y_:=⟨_,La Ta⟩
  obtain ⟨c1,ki⟩:∃ y_,bs[4*x+1]?=some y_:=⟨_,La Ta⟩
  obtain ⟨c2,dY⟩:∃ y_,bs[4*x+2]?=some y_:=⟨_,La Ta⟩
  obtain ⟨c3,uc⟩:∃ y_,bs[4*x+3]?=some y_:=⟨_,La Ta⟩
  have hwb:Pl.tv bs x=Pl.be4 c0 c1 c2 c3:=by unfold Pl.tv; simp only [List.getD_eq_getElem?_getD,ki,dY,uc,show bs[4*x]?=some c0 from nM,Option.getD_some]
  refine au 10 ?_
  refine dw [0,3,6,9,12,15,18,21,24,27,30,33,36,39,42,45,48,51,54,57,60,63,66,69,72,75,78,81,84,87,90,93,96,2,99,102,106] hm fun w hw ar hh hm=>?_
  refine au 3 ?_
  refine Ja rfl rfl (Vy rfl rfl (Gu 4 Ta))<|Ja rfl rfl (Qy rfl rfl sl22.h Kt Ta Ta)<|Ja rfl rfl (J3 rfl sc5.h (Kt▸hx.Yu ar.to sb).nd JG nM rfl)<|Ja rfl rfl (JX rfl is5 it120 th)<|Ja rfl rfl (so rfl rfl Tb (xL 24 rfl Tb))<|au 2 ?_
  refine Ja rfl rfl (Vy rfl rfl (Gu 4 Ta))<|Ja rfl rfl (J5 rfl rfl (tj 1 Ta))<|Ja rfl rfl (Qy rfl rfl sl22.h Kt Ta Ta)<|Ja rfl rfl (J3 rfl sc5.h (Kt▸hx.Yu ar.to sb).nd JG ki rfl)<|Ja rfl rfl (JX rfl is5 it120 th)<|Ja rfl rfl (so rfl rfl Tb (xL 16 rfl Tb))<|Ja rfl rfl (kX rfl rfl zD)<|au 2 ?_
  refine Ja rfl rfl (Vy rfl rfl (Gu 4 Ta))<|Ja rfl rfl (J5 rfl rfl (tj 2 Ta))<|Ja rfl rfl (Qy rfl rfl sl22.h Kt Ta Ta)<|Ja rfl rfl (J3 rfl sc5.h (Kt▸hx.Yu ar.to sb).nd JG dY rfl)<|Ja rfl rfl (JX rfl is5 it120 th)<|Ja rfl rfl (so rfl rfl Tb (xL 8 rfl Tb))<|Ja rfl rfl (kX rfl rfl zD)<|au 2 ?_
  refine Ja rfl rfl (Vy rfl rfl (Gu 4 Ta))<|Ja rfl rfl (J5 rfl rfl (tj 3 Ta))<|Ja rfl rfl (Qy rfl rfl sl22.h Kt Ta Ta)<|Ja rfl rfl (J3 rfl sc5.h (Kt▸hx.Yu ar.to sb).nd JG uc rfl)<|Ja rfl rfl (JX rfl is5 it120 th)<|au 1 ?_
  refine Ja rfl rfl (kX rfl rfl zD)<|Ja rfl rfl (JO rfl rfl ar186 Ta Ta)<|Vi rfl rfl rfl rfl sz120 rfl hm 0 rfl (by rw [Nat.ble_eq,CB,Lc,Pl.VQ,List.length_replicate]; simp only [LG]; omega) fun w hm=>?_
  have fb:Mem w0 w (fun k=>k=m) [(m1,.row 186 (aU ((Pl.V8 bs x++List.replicate (16-x) 0).flatMap Zn) (0+x*1) [.int .u32 ((Pl.be4 c0 c1 c2 c3).toNat:Int)])),(m,(.row TT (tA s rv n)))]:=hm
  rw [setW,py (Pl.VQ bs x) Ta,← hwb,← Pl.tw] at fb
  refine au 7 ?_
  refine next (x+1) Ta ⟨fb,Ta⟩ ⟨nx x,Tm⟩
 ·
  simp only [dF] at ai
  obtain rfl:x=16:=by omega
  rw [Nat.sub_self,List.replicate_zero,Lq] at hm
  refine au 10 ?_
  refine Ja rfl rfl (Jm (s:=8) (vs:=[_,_,_,_,_,_,_,_]) rfl ag121.h (hm.nt 1 rfl) rfl)<|aT hm fun m2 w hm=>?_
  refine st hm 0 fun w hm=>?_
  refine au 5 ?_
  refine cA rfl rfl rfl (Nx _) hm fun w hm=>au 4 ?_
  refine Jg (ι:=Nat×List UInt32) rfl (ks:=[0,4,6,64]) Tn (fun x=>[(65,.int .i64 x.1)]) (fun x w=>Mem w0 w (fun k=>k=m) [(m2,.row 121 (GH (Pl.fG Pl.qK (Pl.Q0 bs) s x.1))),(m1,.row 186 (x.2.flatMap Zn)),(m,(.row TT (tA s rv n)))]∧Pl.Ring x.2 (Pl.Q0 bs) x.1∧x.1≤64) (fun x=>64-x.1) (0,Pl.V8 bs 16) (⟨hm,Pl.Ring.start bs,LL _⟩) Tm (fun x w hM=>?_)
  obtain ⟨hm,hR,hk⟩:=hM
  refine au 6 ?_
  refine cd (fun ao=>?_) fun ao=>?_
  ·
   simp only [dT] at ao
   obtain ⟨t,r⟩:=x
   simp only at hm hR hk ao ⊢
   have hKt:Pl.qK[t]?=some (Pl.qK.getD t 0):=by rw [List.getD_eq_getElem?_getD,La (by rw [Pl.GA]; omega)]; rfl
   refine au 7 ?_
   refine Ja rfl rfl (tx rfl rfl ar187 sc120.h Ta (wy hKt))<|au 4 ?_
   refine Xc (ι:=List UInt32) rfl (ks:=[0,4,6,7,8,64,65]) Tn (fun r9=>[]) (fun r9 w=>Mem w0 w (fun k=>k=m) [(m2,.row 121 (GH (Pl.fG Pl.qK (Pl.Q0 bs) s t))),(m1,.row 186 (r9.flatMap Zn)),(m,(.row TT (tA s rv n)))]∧Pl.Ring r9 (Pl.Q0 bs) (t+1)) ?_ (fun r9 w hM=>?_)
   ·
    refine au 6 ?_
    refine cd (fun aD=>?_) fun aD=>?_
    ·
     simp only [dT] at aD
     refine au 1 ?_
     refine dw [0,3,6,9,12,15,18,21,24,27,30,33] hm fun w hw ar hh hm=>?_
     refine au 1 ?_
     refine Ja rfl rfl (J5 rfl rfl (tj 1 Ta))<|Ja rfl rfl (VA rfl rfl (gK Ta))<|Ja rfl rfl (JO rfl rfl ar186 (Int.natCast_nonneg _) Ta)<|Ja rfl rfl (Jh rfl sc120.h (ar.nd 1 rfl id) (wy (hR.at (Pl.YC bs) (i:=t-15) Ta Ta Ta Ta)))<|au 1 ?_
     refine Ja rfl rfl (J5 rfl rfl (tj 14 Ta))<|Ja rfl rfl (VA rfl rfl (gK Ta))<|Ja rfl rfl (JO rfl rfl ar186 (Int.natCast_nonneg _) Ta)<|Ja rfl rfl (Jh rfl sc120.h (ar.nd 1 rfl id) (wy (hR.at (Pl.YC bs) (i:=t-2) Ta Ta Ta Ta)))<|au 7 ?_
     refine cA rfl rfl rfl (XP _ 7 _ Tb Tb) hm fun w hm=>au 1 ?_
     refine cA rfl rfl rfl (XP _ 18 _ Tb Tb) hm fun w hm=>Ja rfl rfl (Vw rfl rfl XF)<|au 1 ?_
     refine Ja rfl rfl (V1 rfl rfl Tb (Yz 3 rfl Tb))<|Ja rfl rfl (Vw rfl rfl XF)<|au 6 ?_
     refine cA rfl rfl rfl (XP _ 17 _ Tb Tb) hm fun w hm=>au 1 ?_
     refine cA rfl rfl rfl (XP _ 19 _ Tb Tb) hm fun w hm=>Ja rfl rfl (Vw rfl rfl XF)<|au 1 ?_
     refine Ja rfl rfl (V1 rfl rfl Tb (Yz 10 rfl Tb))<|Ja rfl rfl (Vw rfl rfl XF)<|au 3 ?_
     refine dw [0,3,6,9,12,15,18,21,24,27,30,33,36,2,39,42,46] hm fun w hw ar hh hm=>?_
     refine au 1 ?_
     refine Ja rfl rfl (VA rfl rfl (gK Ta))<|Ja rfl rfl (JO rfl rfl ar186 (Int.natCast_nonneg _) Ta)<|Ja rfl rfl (Jh rfl sc120.h (ar.nd 1 rfl id) (wy (hR.at (Pl.YC bs) (i:=t-16) Ta Ta Ta Ta)))<|au 2 ?_
     refine Ja rfl rfl (J5 rfl rfl (tj 9 Ta))<|Ja rfl rfl (VA rfl rfl (gK Ta))<|Ja rfl rfl (JO rfl rfl ar186 (Int.natCast_nonneg _) Ta)<|Ja rfl rfl (Jh rfl sc120.h (ar.nd 1 rfl id) (wy (hR.at (Pl.YC bs) (i:=t-7) Ta Ta Ta Ta)))<|Ja rfl rfl (J5 rfl rfl YA)<|au 1 ?_
     refine Ja rfl rfl (J5 rfl rfl YA)<|au 1 ?_
     refine Ja rfl rfl (J5 rfl rfl YA)<|Ja rfl rfl (JO rfl rfl ar186 (Int.natCast_nonneg _) Ta)<|Vi rfl rfl rfl rfl sz120 rfl hm 1 rfl (by rw [Nat.ble_eq,CB,hR.len]; simp only [LG]; omega) fun w hm=>?_
     have fb:Mem w0 w (fun k=>k=m) [(m2,.row 121 (GH (Pl.fG Pl.qK (Pl.Q0 bs) s t))),(m1,.row 186 (aU (r.flatMap Zn) (0+(t%16)*1) [.int .u32 (((Pl.Q0 bs).getD (t-16) 0+(Pl.Sc ((Pl.Q0 bs).getD (t-15) 0)+(Pl.Q0 bs).getD (t-7) 0+Pl.Sd ((Pl.Q0 bs).getD (t-2) 0))).toNat:Int)])),(m,(.row TT (tA s rv n)))]:=hm
     rw [setW] at fb
     refine au 1 ?_
     first | exact Qt _ ⟨fb,hR.I4 Ta Ta (Pl.px bs Ta Ta)⟩ Tm | exact Qt r ⟨hm,hR.I3 Ta⟩ Tm
    ·
     simp only [dF] at aD
     refine au 1 ?_
     first | exact Qt _ ⟨fb,hR.I4 Ta Ta (Pl.px bs Ta Ta)⟩ Tm | exact Qt r ⟨hm,hR.I3 Ta⟩ Tm
   ·
    obtain ⟨hm,hR⟩:=hM
    refine au 1 ?_
    refine dw [0,3,6,9,12,15] hm fun w hw ar hh hm=>?_
    refine Ja rfl rfl (JO rfl rfl ar121 Ta Ta)<|au 1 ?_
    refine Ja rfl rfl (JO rfl rfl ar121 Ta Ta)<|au 7 ?_
    refine Ja rfl rfl (JO rfl rfl ar121 Ta Ta)<|au 2 ?_
    refine Ja rfl rfl (JO rfl rfl ar121 Ta Ta)<|au 1 ?_
    refine Ja rfl rfl (JO rfl rfl ar121 Ta Ta)<|au 1 ?_
    refine Ja rfl rfl (Vw rfl rfl XF)<|Ja rfl rfl (VA rfl rfl my)<|Ja rfl rfl (Vw rfl rfl XF)<|au 6 ?_
    refine Ja rfl rfl (JO rfl rfl ar121 Ta Ta)<|au 1 ?_
    refine Ja rfl rfl (VA rfl rfl my)<|Ja rfl rfl (JO rfl rfl ar121 Ta Ta)<|au 2 ?_
    refine Ja rfl rfl (JO rfl rfl ar121 Ta Ta)<|au 1 ?_
    refine Ja rfl rfl (kX rfl rfl zD)<|Ja rfl rfl (VA rfl rfl my)<|Ja rfl rfl (kX rfl rfl zD)<|au 3 ?_
    refine Xc (ι:=Unit) rfl (ks:=[0,4,6,7,8,13,14,15,16,64,65]) Tn (fun u9=>[(17,.int .u32 ((Pl.Gy (Pl.fG Pl.qK (Pl.Q0 bs) s t) (Pl.qK.getD t 0) ((Pl.Q0 bs).getD t 0)).toNat:Int))]) (fun u9 w=>Mem w0 w (fun k=>k=m) [(m2,.row 121 (GH (Pl.fG Pl.qK (Pl.Q0 bs) s t))),(m1,.row 186 (r9.flatMap Zn)),(m,(.row TT (tA s rv n)))]) ?_ (fun u9 w hM=>?_)
    ·
     refine dw [0,3,6,12,21,33,39,45,48,51,54,10,16,18,25,27,30,36,42,57,60] hm fun w hw ar hh hm=>?_
     refine Ja rfl rfl (JO rfl rfl ar121 Ta Ta)<|au 7 ?_
     refine Ja rfl rfl (VA rfl rfl (gK Ta))<|Ja rfl rfl (JO rfl rfl ar186 (Int.natCast_nonneg _) Ta)<|Ja rfl rfl (Jh rfl sc120.h (ar.nd 1 rfl id) (wy (hR.at (Pl.YC bs) (i:=t) Ta Ta Ta rfl)))<|cB rfl rfl rfl (XP _ 6 _ Tb Tb) hm hh fun w hm hh=>cB rfl rfl rfl (XP _ 11 _ Tb Tb) hm hh fun w hm hh=>Ja rfl rfl (Vw rfl rfl XF)<|cB rfl rfl rfl (XP _ 25 _ Tb Tb) hm hh fun w hm hh=>Ja rfl rfl (Vw rfl rfl XF)<|Ja rfl rfl (J5 rfl rfl YA)<|Ja rfl rfl (J5 rfl rfl YA)<|Ja rfl rfl (J5 rfl rfl YA)<|Ja rfl rfl (J5 rfl rfl YA)<|au 2 ?_
     exact Qt () hm ⟨by rw [← Pl.Sg]; rfl,Tm⟩
    ·
     have hm:=hM
     refine au 3 ?_
     refine cA rfl rfl rfl (XP _ 2 _ Tb Tb) hm fun w hm=>au 1 ?_
     refine cA rfl rfl rfl (XP _ 13 _ Tb Tb) hm fun w hm=>Ja rfl rfl (Vw rfl rfl XF)<|au 1 ?_
     refine cA rfl rfl rfl (XP _ 22 _ Tb Tb) hm fun w hm=>Ja rfl rfl (Vw rfl rfl XF)<|au 1 ?_
     refine Ja rfl rfl (J5 rfl rfl YA)<|au 4 ?_
     refine dw [0,3,2,7] hm fun w hw ar hh hm=>?_
     refine Ja rfl rfl (Yx (ln:=1) (hn:=8) rfl ar121 ⟨_,rfl⟩ rfl Ta Ta Ta)<|Ja rfl rfl (Yx (ln:=0) (hn:=7) rfl ar121 rfl ⟨_,rfl⟩ Ta Ta Ta)<|au 1 ?_
     refine GG (src:=(GH (Pl.fG Pl.qK (Pl.Q0 bs) s t)).take 7) rfl rfl rfl rfl rfl sl190.h hm 0 rfl (LP 8) (Rd.row (hm.get (k:=0) rfl) Sw) rfl rfl fun w hm=>au 4 ?_
     refine Ja rfl rfl (JO rfl rfl ar121 Ta Ta)<|au 2 ?_
     refine Ja rfl rfl (J5 rfl rfl YA)<|Ja rfl rfl (JO rfl rfl ar121 Ta Ta)<|st hm 0 fun w hm=>?_
     refine au 5 ?_
     refine Ja rfl rfl (J5 rfl rfl YA)<|Ja rfl rfl (JO rfl rfl ar121 Ta Ta)<|st hm 0 fun w hm=>?_
     have vq:Mem w0 w (fun k=>k=m) [(m2,.row 121 (GH (Pl.fG Pl.qK (Pl.Q0 bs) s (t+1)))),(m1,.row 186 (r9.flatMap Zn)),(m,(.row TT (tA s rv n)))]:=by have e:=Pl.Sh (Pl.fG Pl.qK (Pl.Q0 bs) s t); unfold Pl.fG Pl.rnd; rw [← e]; exact hm
     refine au 7 ?_
     refine next (t+1,r9) Td ⟨vq,hR,Td⟩ ⟨nx t,Tm⟩
  ·
   simp only [dF] at ao
   obtain ⟨t,r⟩:=x
   simp only at hm hR hk ao ⊢
   obtain rfl:t=64:=by omega
   refine au 7 ?_
   refine Ja rfl rfl (Jm (s:=8) (vs:=[_,_,_,_,_,_,_,_]) rfl ag121.h (hm.nt 0 rfl) rfl)<|au 4 ?_
   refine Jg (ι:=Nat) rfl (ks:=[0,181]) Tn (fun y=>[(182,.int .i64 y)]) (fun y w=>Mem w0 w (fun k=>k=m) [(m2,.row 121 (GH (Pl.fG Pl.qK (Pl.Q0 bs) s 64))),(m1,.row 186 (r.flatMap Zn)),(m,.row TT (I6 (mG s (Pl.fG Pl.qK (Pl.Q0 bs) s 64) y) rv n))]∧y≤8) (fun y=>8-y) 0 (⟨hm,LL _⟩) Tm (fun y w hM=>?_)
   obtain ⟨hm,hk⟩:=hM
   refine au 6 ?_
   refine cd (fun bg=>?_) fun bg=>?_
   ·
    simp only [dT] at bg
    refine au 7 ?_
    refine Ja rfl rfl (tx rfl rfl ar121 sc120.h Ta (Sy Ta))<|au 4 ?_
    refine dw [0,3,6,9,12,15,18,21,24,27,2,30,34] hm fun w hw ar hh hm=>?_
    refine au 4 ?_
    refine Ja rfl rfl (JO rfl rfl ar121 Ta Ta)<|Ja rfl rfl (Jh rfl sc120.h (ar.nd 2 rfl id) (GJ (zR _ _ Ta)))<|au 1 ?_
    refine Ja rfl rfl (J5 rfl rfl YA)<|au 3 ?_
    refine Ja rfl rfl (JO rfl rfl ar121 Ta Ta)<|Vi rfl rfl rfl rfl sz120 rfl hm 2 rfl (by rw [Nat.ble_eq]; unfold I6; rw [Lc,CB,pz _ _ Ta]; simp only [Li,LA]; omega) fun w hm=>?_
    have fb:Mem w0 w (fun k=>k=m) [(m2,.row 121 (GH (Pl.fG Pl.qK (Pl.Q0 bs) s 64))),(m1,.row 186 (r.flatMap Zn)),(m,.row TT (aU (I6 (mG s (Pl.fG Pl.qK (Pl.Q0 bs) s 64) y) rv n) (0+y*1) [.int .u32 ((s.l.getD y 0+(Pl.fG Pl.qK (Pl.Q0 bs) s 64).l.getD y 0).toNat:Int)]))]:=hm
    rw [GI (by rw [pz _ _ Ta]; omega),zS _ _ Ta] at fb
    refine au 7 ?_
    refine next (y+1) Ta ⟨fb,Ta⟩ ⟨nx y,Tm⟩
   ·
    simp only [dF] at bg
    obtain rfl:y=8:=by omega
    refine au 4 ?_
    refine eK (fin Jc rfl .nil .nil ?_)
    exact ⟨rfl,(hm.pick [2] rfl)⟩
theorem Dq(bs:Th)(q:Tg)(cq:Nat)(TT m:Nat)(msg:Th)(Z:Tf)(w0:World)(hZ:Jr w0 Z)(hz:VN TT 5 msg m Z)(FA:msg.length≤1000000000000)(hq:Rd w0 q (bs.flatMap Jk))(sb:bs.flatMap Jk≠[]→∀ ad,q=some ad→¬ Mn (ak Z) ad.block)(cO:bs.length≤1000000000000):C Tryz.prog 59 [.pointer (some ⟨m,0,none⟩),.slice q bs.length cq] w0 fun v w'=>v=.tuple ⟨[]⟩∧∃ Z',VN TT 5 (msg++bs) m Z'∧Mem w0 w' (Mn (ak Z)) Z':=by
 have ar:=hZ.start
 generalize Mn (ak Z)=X at sb ar ⊢
 obtain ⟨p,cap,g,b,rfl,ha⟩:=hz
 have Cy:=Pl.Zw msg
 refine Vk Tryz.func59 rfl rfl rfl fun κ _ Je Jc=>?_
 have hm:=ar
 refine au 8 ?_
 refine Ja rfl rfl (J5 rfl rfl ((tj _ Ta).trans (show _=(((msg++bs).length:Nat):Int) by rw [Lc])))<|au 2 ?_
 refine st hm 0 fun w hm=>?_
 refine au 10 ?_
 refine zO rfl rfl rfl rfl rfl rfl sl22.h sl22.h z5.h rfl (Zl bs) (hq.Yu hm.to sb) (J0 bs) ha hm 1 rfl Ta Ta fun aK aj aI aF w ah hm=>?_
 have hR0:=Pl.wx msg bs
 have hS0:=Pl.zL msg bs
 have hLr:(Pl.Vr msg++bs).length=(Pl.Vr msg).length+bs.length:=Lc
 refine au 2 ?_
 refine st hm 0 fun w hm=>?_
 refine au 3 ?_
 refine Jg (ι:=Nat) rfl (ks:=[0]) Tn (fun k=>[]) (fun k w=>∃ p9 c9,Mem w0 w X [(m,.row TT (tA (Pl.Zx Pl.Z5 (msg++bs) k) (.slice p9 ((msg++bs).drop (64*k)).length c9) ((msg++bs).length:Int))),(aI,aF)]∧ek 5 1 p9 ((msg++bs).drop (64*k)).length c9 (((msg++bs).drop (64*k)).flatMap Jk) aI aF∧64*k≤(msg++bs).length) (fun k=>(msg++bs).length+1-64*k) (msg.length/64) (⟨aK,aj,by rw [hR0,hS0,hLr]; exact hm,by rw [hR0,hLr,Lh]; exact ah,by rw [Lc]; omega⟩) trivial (fun k w hM=>?_)
 obtain ⟨p9,c9,hm,ha,hk⟩:=hM
 refine au 11 ?_
 refine cd (fun ai=>?_) fun ai=>?_
 ·
  simp only [dT] at ai
  have Us:=ha.le
  have Z8:((msg++bs).drop (64*k)).length=(msg++bs).length-64*k:=Lm
  have hLd:(((msg++bs).drop (64*k)).drop 64).length=((msg++bs).drop (64*k)).length-64:=Lm
  refine au 10 ?_
  refine Ja rfl rfl (JE (ln:=0) (hn:=64) rfl sl22.h rfl ⟨_,rfl⟩ Ta Ta (fun h=>ha.spot Ta))<|cT rfl rfl rfl (Hc TT m _ _ _ _ _ (((msg++bs).drop (64*k)).take 64) _ (hm.get (k:=0) rfl) ((ha.MF hm Tc).Sm ha.le) (ha.MW hm 1 0 rfl rfl rfl 64 rfl) (by rw [Lg]; omega)) fun v w hR=>?_
  obtain ⟨rfl,ae⟩:=hR
  replace hm:=hm.Qv 0 rfl ae
  refine au 8 ?_
  refine Ja rfl rfl (JE (ln:=64) (hn:=((msg++bs).drop (64*k)).length) rfl sl22.h ⟨_,rfl⟩ rfl Ta Ta (fun h=>ha.spot Ta))<|au 2 ?_
  refine st hm 0 fun w hm=>?_
  refine au 2 ?_
  refine next (k+1) Ta ⟨bP p9 c9 64 1,c9-64,?_,?_,Ta⟩ Tm
  · rw [Pl.xQ,hLd]; exact hm
  · rw [Pl.xQ,hLd,← mz]; exact ha.cut Ta
 ·
  simp only [dF] at ai
  have b8:=Pl.GB hk Ta
  subst b8
  refine au 4 ?_
  refine eK (fin Jc rfl .nil .nil ?_)
  exact ⟨rfl,_,⟨_,_,_,_,rfl,ha⟩,hm⟩
theorem Ae(w0:World):C Tryz.prog 58 [] w0 fun v w'=>v=.agg ⟨tA Pl.Z5 (.slice none 0 0) 0⟩∧Ext No w0 w':=by
 refine aH Tryz.func58 fun κ _ Je Jc hm=>?_
 refine au 2 ?_
 refine aT hm fun m1 w hm=>?_
 refine au 4 ?_
 refine Ja rfl rfl (Qe (cs:=[_,_,_,_,_,_,_,_]) z121.h ft121.h rfl rfl rfl rfl rfl)<|Ja rfl rfl (Qe (cs:=[_,_,_,_,_,_,_,_,_,_]) z123.h ft123.h rfl rfl rfl rfl rfl)<|st hm 0 fun w hm=>?_
 refine au 3 ?_
 refine dD (fin Je rfl (.cell rfl (Ju (vs:=[_,_,_,_,_,_,_,_,_,_]) ag123.h (hm.get (k:=0) rfl) rfl) .nil) .one ?_)
 exact ⟨rfl,hm.to⟩
theorem Dr(TT m:Nat)(msg:Th)(Z:Tf)(w0:World)(hZ:Jr w0 Z)(hz:VN TT 5 msg m Z)(FA:msg.length≤1000000000000):C Tryz.prog 60 [.pointer (some ⟨m,0,none⟩)] w0 fun v w'=>∃ p9 c9 g9 b9,v=.agg ⟨tA (Pl.mE msg) (.slice p9 (Pl.Vr msg).length c9) (msg.length:Int)⟩∧Acc 5 1 p9 (Pl.Vr msg).length c9 ((Pl.Vr msg).flatMap Jk) g9 b9∧Mem w0 w' No [(g9,b9)]:=by
 obtain ⟨p,cap,g,b,rfl,ha⟩:=hz
 have hP:w0.heap[m]?=some (ag.row TT (tA (Pl.mE msg) (.slice p (Pl.Vr msg).length cap) (msg.length:Int))).Jd:=hZ.get (k:=0) rfl
 have Cy:=Pl.Zw msg
 have hRd:=ha.MF hZ.start Tc
 refine aH Tryz.func60 fun κ _ Je Jc hm=>?_
 refine au 2 ?_
 refine aT hm fun m1 w hm=>?_
 refine au 6 ?_
 refine Ja rfl rfl (Jm (s:=10) (vs:=[_,_,_,_,_,_,_,_,_,_]) rfl ag123.h (Qo ((hm.to.same _ (Lb.1 hP).1 id).trans hP)) rfl)<|aT hm fun m2 w hm=>?_
 refine st hm 0 fun w hm=>?_
 refine au 8 ?_
 refine cT rfl rfl rfl (V0 p cap (Pl.Vr msg) _ (hRd.Jj hm.to) Ta) fun v w hR=>?_
 obtain ⟨aK,aj,aI,aF,rfl,ah,ae⟩:=hR
 replace hm:=hm.Jt ae
 refine au 1 ?_
 refine st hm 1 fun w hm=>?_
 refine au 4 ?_
 refine Ja rfl rfl (Jm (s:=10) (vs:=[_,_,_,_,_,_,_,_,_,_]) rfl ag123.h (hm.nt 1 rfl) rfl)<|st hm 2 fun w hm=>?_
 refine au 3 ?_
 refine dD (fin Je rfl (.cell rfl (Ju (vs:=[_,_,_,_,_,_,_,_,_,_]) ag123.h (hm.get (k:=2) rfl) rfl) .nil) .one ?_)
 exact ⟨aK,aj,aI,aF,rfl,ah,(hm.pick [0] rfl)⟩
theorem Ds(TT m:Nat)(msg:Th)(Z:Tf)(w0:World)(hZ:Jr w0 Z)(hz:VN TT 5 msg m Z)(FA:msg.length≤1000000000000):C Tryz.prog 61 [.pointer (some ⟨m,0,none⟩)] w0 fun v w'=>v=.agg ⟨(Pl.bu msg).flatMap Jk⟩∧∃ Z',Mem w0 w' (Mn (ak Z)) Z':=by
 have fO:=hz
 obtain ⟨p,cap,g,b,hZe,ha⟩:=fO
 have Cy:=Pl.Zw msg
 have hpz:(119-(Pl.Vr msg).length)%64=Pl.ZA msg.length:=by unfold Pl.ZA; rw [Cy]
 refine Vk Tryz.func61 rfl rfl rfl fun κ _ Je Jc=>?_
 have hm:=hZ.start
 refine au 2 ?_
 refine aT hm fun m1 w hm=>?_
 refine au 5 ?_
 have Ny:=(hZe▸Jr.right (A:=[_]) hm.Jz).get (k:=0) rfl
 refine au 2 ?_
 refine Ja rfl rfl (Jh rfl sc3.h (Qo Ny) rfl)<|Ja rfl rfl (JX rfl is3 it55 (GF.trans (by rw [Nat.mod_eq_of_lt Ta])))<|Ja rfl rfl (Vy rfl rfl (Ss (b:=8) Ta))<|au 5 ?_
 refine Jb (l:=[_]) rfl rfl sl22.h z5.h rfl rfl rfl rfl rfl rfl rfl hm trivial fun m2 w bo hm hh=>au 1 ?_
 have Ny:=(hZe▸Jr.right (A:=[_,_]) hm.Jz).get (k:=0) rfl
 refine au 2 ?_
 refine Ja rfl rfl (Jh rfl sc22.h (Qo Ny) rfl)<|au 1 ?_
 refine Ja rfl rfl (QR rfl rfl (wg (a:=119) _ Ta Tb))<|Ja rfl rfl (sm rfl rfl Tb ((Sn _ 64).trans (by rw [hpz])))<|oR rfl rfl rfl rfl rfl rfl sl22.h it3 z5.h rfl rfl (Acc.row rfl) hm 0 rfl (by unfold Pl.ZA; omega) (by unfold Pl.ZA; omega) fun ud dZ Bn Bo w cP hm=>?_
 replace cP:=cP.to (show _=([128]++List.replicate (Pl.ZA msg.length) 0++(Pl.wu (msg.length*8) 8).take 0).flatMap Jk by rw [Gs,List.take_zero,Lq,Lh]; rfl)
 have bO:=cP.J0
 rw [bO] at cP
 refine au 10 ?_
 refine Jg (ι:=Nat×Option Addr×Nat×Nat×ag) rfl (ks:=[0,2,3]) Tn (fun x=>[(5,.int .i64 (7-(x.1:Int))),(4,.slice x.2.1 ([128]++List.replicate (Pl.ZA msg.length) 0++(Pl.wu (msg.length*8) 8).take x.1).length x.2.2.1)]) (fun x w=>Mem w0 w (Mn (ak Z)) ((x.2.2.2.1,x.2.2.2.2)::(m1,.row 23 ((List.replicate 32 (0:UInt8)).flatMap Jk))::Z)∧Acc 5 1 x.2.1 ([128]++List.replicate (Pl.ZA msg.length) 0++(Pl.wu (msg.length*8) 8).take x.1).length x.2.2.1 (([128]++List.replicate (Pl.ZA msg.length) 0++(Pl.wu (msg.length*8) 8).take x.1).flatMap Jk) x.2.2.2.1 x.2.2.2.2∧x.1≤8) (fun x=>8-x.1) (0,ud,dZ,Bn,Bo) (⟨hm,cP,LL _⟩) ⟨rfl,LM (fun z=>some (Value.slice ud z dZ)) bO,trivial⟩ (fun x w hM=>?_)
 obtain ⟨hm,cP,hk⟩:=hM
 refine au 7 ?_
 refine cd (fun ai=>?_) fun ai=>?_
 ·
  simp only [dT] at ai
  obtain ⟨y,ud,dZ,Bn,Bo⟩:=x
  simp only at hm cP hk ai ⊢
  have ya:([128]++List.replicate (Pl.ZA msg.length) 0++(Pl.wu (msg.length*8) 8).take y).length≤100:=by simp only [Lc,List.length_replicate,Lg,Pl.km,Li,LA]; unfold Pl.ZA; omega
  have re:=Pl.xR (msg.length*8) 8 y Ta
  refine au 9 ?_
  refine Ja rfl rfl (V1 rfl rfl Ta rfl)<|Ja rfl rfl (JX rfl is55 it5 (CC (y:=y) Ta rfl))<|Jb (l:=[_]) rfl rfl sl22.h z5.h rfl rfl rfl rfl rfl rfl rfl hm trivial fun m3 w dX hm hh=>Jy rfl rfl rfl rfl rfl rfl sl22.h sl22.h z5.h rfl rfl (Rd.JL (hm.get (k:=0) rfl)) rfl cP hm 1 rfl Ta Ta fun ud dZ Bn Bo w cP hm=>?_
  replace cP:=cP.to (show _=([128]++List.replicate (Pl.ZA msg.length) 0++(Pl.wu (msg.length*8) 8).take (y+1)).flatMap Jk by rw [LC,re,Option.toList,← Lp,Lh (xs:=([128]++List.replicate (Pl.ZA msg.length) 0++(Pl.wu (msg.length*8) 8).take y))]; rfl)
  have bO:=cP.J0
  refine au 9 ?_
  refine next (y+1,ud,dZ,Bn,Bo) Td ⟨(hm.Jp [1,2] 3 rfl),?_,Td⟩ ⟨LM (fun z=>some (Value.int .i64 z)) (show (7:Int)-(y:Int)-1=7-((y+1:Nat):Int) by omega),LM (fun z=>some (Value.slice ud z dZ)) bO,Tm⟩
  simp only
  rw [← bO]
  exact cP
 ·
  simp only [dF] at ai
  obtain ⟨y,ud,dZ,Bn,Bo⟩:=x
  simp only at hm cP hk ai ⊢
  obtain rfl:y=8:=by omega
  have hee:([128]++List.replicate (Pl.ZA msg.length) 0++(Pl.wu (msg.length*8) 8).take 8)=Pl.XG msg.length:=by unfold Pl.XG; rw [LZ (by rw [Pl.km]; exact LP _)]
  rw [hee] at cP ⊢
  have Kp:=(Pl.zK msg.length).2
  refine au 9 ?_
  refine cT rfl rfl rfl (Dq (Pl.XG msg.length) ud dZ TT m msg Z _ (Jr.right (A:=[_,_]) hm.Jz) hz FA (cP.rd hm 0 rfl) (fun hn ad e h9=>by have q9:=cP.GD hn; rw [q9.1] at e; cases e; exact Mem.qG (A:=[_,_]) hm (k:=0) rfl q9.2 h9) Ta) fun v w hR=>?_
  obtain ⟨rfl,Z9,eC,ae⟩:=hR
  replace hm:=Mem.JQ (A:=[_,_]) hm ae
  obtain ⟨p9,ja4,g9,b9,rfl,ha9⟩:=eC
  refine au 4 ?_
  refine aT hm fun m3 w hm=>?_
  refine au 9 ?_
  refine Jg (ι:=Nat) rfl (ks:=[0,2,6]) Tn (fun x=>[(38,.int .i64 x)]) (fun x w=>Mem w0 w (Mn (ak Z)) [(m3,.row 23 (((Pl.jB (Pl.mE (msg++Pl.XG msg.length))).take x++List.replicate (32-x) 0).flatMap Jk)),(m,.row TT (tA (Pl.mE (msg++Pl.XG msg.length)) (.slice p9 (Pl.Vr (msg++Pl.XG msg.length)).length ja4) ((msg++Pl.XG msg.length).length:Int))),(m1,.row 23 ((List.replicate 32 (0:UInt8)).flatMap Jk))]∧x≤32) (fun x=>32-x) 0 (⟨by rw [List.take_zero,L4,Nat.sub_zero]; exact (hm.pick [0,3,2] rfl),LL _⟩) Tm (fun x w hM=>?_)
  obtain ⟨hm,hk⟩:=hM
  refine au 6 ?_
  refine cd (fun ao=>?_) fun ao=>?_
  ·
   simp only [dT] at ao
   have oG:=Pl.zM (Pl.mE (msg++Pl.XG msg.length)) (i:=x) Ta
   refine au 14 ?_
   refine Ja rfl rfl (Yy rfl rfl Tb (jay x 4 Ta Tb))<|au 2 ?_
   refine Ja rfl rfl (JO rfl rfl ar121 (Int.natCast_nonneg _) Ta)<|Ja rfl rfl (Jh rfl sc120.h (hm.nt 1 rfl) (GK (i:=x/4) Ta))<|au 1 ?_
   refine Ja rfl rfl (sm rfl rfl Tb (Sn x 4))<|Ja rfl rfl (Vy rfl rfl (n4 (a:=x%4) (b:=8) Ta))<|Ja rfl rfl (QR rfl rfl (wg (a:=24) _ Ta Tb))<|Ja rfl rfl (V1 rfl rfl (Int.natCast_nonneg _) (Yz (UInt32.ofNat (24-x%4*8)) (by rw [oN Ta]) (by rw [oN Ta]; omega)))<|Ja rfl rfl (JX rfl is120 it5 zF)<|Ja rfl rfl (JO rfl rfl ar23 (Int.natCast_nonneg _) Ta)<|Vi rfl rfl rfl rfl sz5 rfl hm 0 rfl (by rw [Nat.ble_eq,J0,Lc,Lg,List.length_replicate,Pl.Vf]; simp only [LG]; omega) fun w hm=>?_
   have fb:=hm
   simp only [Qr] at fb
   rw [show (x:Int).toNat=x from rfl,Sv,py (by rw [Lg,Pl.Vf]; omega) Ta,← Pl.QG oG] at fb
   refine au 7 ?_
   refine next (x+1) Ta ⟨fb,Ta⟩ ⟨nx x,Tm⟩
  ·
   simp only [dF] at ao
   obtain rfl:x=32:=by omega
   rw [Nat.sub_self,List.replicate_zero,Lq,LZ (by rw [Pl.Vf]; exact LP _)] at hm
   refine au 7 ?_
   refine Ja rfl rfl (Jm (s:=32) (vs:=(((Pl.jB (Pl.mE (msg++Pl.XG msg.length)))).flatMap Jk)) rfl ag23.h (hm.nt 0 rfl) (xU (Pl.Vf _)))<|Vi rfl rfl rfl rfl (sz23.trans (LM some (XQ (Pl.Vf _)).symm)) (Zl _) hm 2 rfl (by rw [Nat.ble_eq,XQ (Pl.Vf _),XQ List.length_replicate]; exact LP 32) fun w hm=>?_
   rw [gL (by rw [XQ (Pl.Vf _),XQ List.length_replicate])] at hm
   refine au 3 ?_
   refine dD (fin Je rfl (.cell rfl (Ju (vs:=(((Pl.jB (Pl.mE (msg++Pl.XG msg.length)))).flatMap Jk)) ag23.h (hm.get (k:=2) rfl) (xU (Pl.Vf _))) .nil) .one ?_)
   exact ⟨rfl,_,hm⟩
theorem ue(w0:World):C Tryz.prog 40 [] w0 fun v w'=>∃ m Z,v=.pointer (some ⟨m,0,none⟩)∧VN 126 5 [] m Z∧Mem w0 w' No Z:=by
 refine aH Tryz.func40 fun κ _ Je Jc hm=>?_
 refine au 7 ?_
 refine cA rfl rfl rfl (Ae _) hm fun w hm=>Ja rfl rfl (Qe (cs:=[_,_,_,_,_,_,_,_,_,_]) z126.h ft126.h rfl rfl rfl rfl rfl)<|bT hm fun m1 w hm=>?_
 refine au 5 ?_
 exact ⟨_,_,rfl,⟨none,0,0,.gap,rfl,(Acc.nil _ _ _ _).o⟩,(hm.JP.pick [1,0] rfl)⟩
theorem kr(q:Tg)(cq:Nat)(ps:List SB)(TT m:Nat)(msg:Th)(Z:Tf)(w0:World)(hZ:Jr w0 Z)(hz:VN TT 5 msg m Z)(FA:msg.length≤1000000000000)(hq:Rd w0 q (ps.flatMap encS))(iC:∀ s∈ps,Rd w0 s.p (s.bs.flatMap Jk))(hqa:ps.flatMap encS≠[]→∀ ad,q=some ad→¬ Mn (ak Z) ad.block)(hpa:∀ s∈ps,s.bs.flatMap Jk≠[]→∀ ad,s.p=some ad→¬ Mn (ak Z) ad.block)(hl:ps.length≤1000000000000)(cO:msg.length+(ps.flatMap (·.bs)).length≤1000000000000):C Tryz.prog 41 [.pointer (some ⟨m,0,none⟩),.slice q ps.length cq] w0 fun v w'=>v=.int .i64 ((ps.flatMap (·.bs)).length:Int)∧∃ Z',VN TT 5 (msg++(ps.flatMap (·.bs))) m Z'∧Mem w0 w' (Mn (ak Z)) Z':=by
 refine Vk Tryz.func41 rfl rfl rfl fun κ _ Je Jc=>?_
 have hm:=hZ.start
 refine au 18 ?_
 obtain ⟨rv_,Ny⟩:=hz.row hZ
 refine au 3 ?_
 refine Ja rfl rfl (Jh rfl sc3.h (Qo Ny) rfl)<|au 12 ?_
 refine Jg (ι:=Nat×List (Nat×ag)) rfl (ks:=[0,4,5,15,16]) Tn (fun x=>[(17,.int .i64 x.1)]) (fun x w=>Mem w0 w (Mn (ak Z)) x.2∧VN TT 5 (msg++(ps.take x.1).flatMap (·.bs)) m x.2∧x.1≤ps.length) (fun x=>ps.length-x.1) (0,Z) (⟨hm,by simpa using hz,LL _⟩) Tm (fun x w hM=>?_)
 obtain ⟨hm,dM,hk⟩:=hM
 refine au 6 ?_
 refine cd (fun ao=>?_) fun ao=>?_
 ·
  obtain ⟨x,vr⟩:=x
  simp only at hm dM hk ao ⊢
  simp only [dT] at ao
  obtain ⟨s,hi⟩:∃ y_,ps[x]?=some y_:=⟨_,La Ta⟩
  obtain ⟨b2,o2,nO⟩:=hq.bS V7 Tb hi
  have hsm:=Ld hi
  have PK:=Ze hi
  have bY:=xS ps x
  have ja5:=xS ps (x+1)
  rw [PK,Lc] at ja5
  refine au 6 ?_
  refine Ja rfl rfl (Qy rfl rfl sl88.h nO Ta Ta)<|Ja rfl rfl (J3 rfl sc22.h (nO▸hq.Yu hm.to hqa).nt V7 hi rfl)<|au 8 ?_
  refine cT rfl rfl rfl (Dq s.bs s.p s.cap TT m _ vr _ hm.Jz dM (by rw [Lc]; omega) ((iC s hsm).Yu hm.to (hpa s hsm)) (hm.mF (iC s hsm) (hpa s hsm)) Ta) fun v w hR=>?_
  obtain ⟨rfl,vr,dM,ae⟩:=hR
  replace hm:=Mem.JQ (A:=[]) hm ae
  refine au 7 ?_
  refine next (x+1,vr) Td ⟨hm,by simp only; rw [PK,← Lp]; exact dM,Td⟩ ⟨nx x,Tm⟩
 ·
  obtain ⟨x,vr⟩:=x
  simp only at hm dM hk ao ⊢
  simp only [dF] at ao
  obtain rfl:x=ps.length:=by omega
  rw [Lv] at dM
  refine au 8 ?_
  obtain ⟨rv_,Ny⟩:=dM.row hm.Jz
  refine au 3 ?_
  refine Ja rfl rfl (Jh rfl sc3.h (Qo Ny) rfl)<|au 1 ?_
  refine Ja rfl rfl (QR rfl rfl ((wg _ (by rw [Lc]; omega) (by rw [Lc]; omega)).trans (show _=(((ps.flatMap (·.bs)).length:Nat):Int) by rw [Lc,Kk])))<|au 5 ?_
  exact ⟨rfl,vr,dM,hm⟩
theorem uf(TT m:Nat)(msg:Th)(Z:Tf)(w0:World)(hZ:Jr w0 Z)(hz:VN TT 5 msg m Z)(FA:msg.length≤1000000000000):C Tryz.prog 42 [.pointer (some ⟨m,0,none⟩)] w0 fun v w'=>v=.agg ⟨(Pl.bu msg).flatMap Jk⟩∧Ext No w0 w':=by
 refine aH Tryz.func42 fun κ _ Je Jc hm=>?_
 refine au 2 ?_
 refine aT hm fun m1 w hm=>?_
 refine au 17 ?_
 refine cT rfl rfl rfl (Dr TT m msg Z _ (hZ.ext hm.to) hz FA) fun v w hR=>?_
 obtain ⟨aK,aj,aI,aF,rfl,ah,ae⟩:=hR
 replace hm:=hm.Jt ae
 refine aT hm fun m2 w hm=>?_
 refine st hm 0 fun w hm=>?_
 refine au 4 ?_
 refine cT rfl rfl rfl (Ds 123 m2 msg _ _ (Jr.left (A:=[_,_]) hm.Jz) ⟨aK,aj,aI,aF,rfl,ah.o⟩ FA) fun v w hR=>?_
 obtain ⟨rfl,Z9,ae⟩:=hR
 replace hm:=(Mem.xI (Z:=[_,_]) hm ae).right
 refine Vi rfl rfl rfl rfl (sz23.trans (LM some (XQ (Pl.Qz _)).symm)) (Zl _) hm 0 rfl (by rw [Nat.ble_eq,XQ (Pl.Qz _)]; exact LP 32) fun w hm=>?_
 rw [tz (Pl.Qz _)] at hm
 refine au 3 ?_
 refine dD (fin Je rfl (.cell rfl (Ju (vs:=((Pl.bu msg).flatMap Jk)) ag23.h (hm.get (k:=0) rfl) (xU (Pl.Qz _))) .nil) .one ?_)
 exact ⟨rfl,hm.to⟩
theorem Hd(q:Tg)(cq:Nat)(ps:List SB)(w0:World)(hq:Rd w0 q (ps.flatMap encS))(iC:∀ s∈ps,Rd w0 s.p (s.bs.flatMap Jk))(hl:ps.length≤1000000000000)(cO:(ps.flatMap (·.bs)).length≤1000000000000):C Tryz.prog 21 [.slice q ps.length cq] w0 fun v w'=>v=.agg ⟨(Pl.bu (ps.flatMap (·.bs))).flatMap Jk⟩∧Ext No w0 w':=by
 have eM:=Pl.Qz (ps.flatMap (·.bs))
 obtain ⟨dg,hdg⟩:∃ d,Pl.bu (ps.flatMap (·.bs))=d:=⟨_,rfl⟩
 rw [hdg] at eM ⊢
 refine aH Tryz.func21 fun κ _ Je Jc hm=>?_
 refine au 2 ?_
 refine aT hm fun m1 w hm=>?_
 refine au 4 ?_
 refine cT rfl rfl rfl (ue _) fun v w hR=>?_
 obtain ⟨PT,vr,rfl,dM,ae⟩:=hR
 replace hm:=Mem.XR hm ae
 refine au 7 ?_
 refine cT rfl rfl rfl (kr q cq ps 126 PT [] vr _ (Jr.right (A:=[_]) hm.Jz) dM (LL _) (hq.Jj hm.to) (fun s hs=>(iC s hs).Jj hm.to) ((Mem.right (L:=[_]) hm).mF hq (fun _ _ _ h=>h)) (fun s hs=>(Mem.right (L:=[_]) hm).mF (iC s hs) (fun _ _ _ h=>h)) hl (by rw [LA]; omega)) fun v w hR=>?_
 obtain ⟨rfl,vr,dM,ae⟩:=hR
 replace hm:=Mem.JQ (A:=[_]) hm ae
 rw [L4] at dM
 refine au 5 ?_
 refine cA rfl rfl rfl (C.as (v:=.agg ⟨dg.flatMap Jk⟩) (uf 126 PT _ vr _ (Jr.right (A:=[_]) hm.Jz) dM cO) (by rw [hdg])) hm fun w hm=>Vi rfl rfl rfl rfl (sz23.trans (LM some (XQ eM).symm)) (Zl _) hm 0 rfl (by rw [Nat.ble_eq,XQ eM]; exact LP 32) fun w hm=>?_
 rw [tz eM] at hm
 refine au 3 ?_
 refine dD (fin Je rfl (.cell rfl (Ju (vs:=((dg).flatMap Jk)) ag23.h (hm.get (k:=0) rfl) (xU eM)) .nil) .one ?_)
 exact ⟨rfl,hm.to⟩
theorem nb(c:Pl.Cm)(p:Tg)(cap:Nat)(s:Int)(w0:World)(hc:Pl.av c=0)(hs:Pl.aA s)  : C Tryz.prog 184 [.agg ⟨fV c p c.bs.length cap⟩,.int .i64 s] w0 fun v w'=>v=.int .i64 (Pl.Ji c s)∧Ext No w0 w':=by
 have hk:=Pl.Jl hc
 refine aH Tryz.func184 fun κ _ Je Jc hm=>?_
 refine au 2 ?_
 refine bT hm fun m1 w hm=>?_
 refine au 10 ?_
 refine cd (fun ai=>?_) fun ai=>?_
 ·
  simp only [bA,bB,bC,bD,bE,bF,dT,dF] at ai
  refine au 8 ?_
  exact ⟨by unfold Pl.Ji; rw [LI ai],hm.to⟩
 ·
  simp only [bA,bB,bC,bD,bE,bF,dT,dF] at ai
  refine au 5 ?_
  refine cA rfl rfl rfl (Vd _ _ _ _) hm fun w hm=>Ja rfl rfl (QF rfl fv32_1 rfl)<|au 2 ?_
  refine Ja rfl rfl (Yy rfl rfl Ta (oS Ta Ta Ta))<|Ja rfl rfl (J5 rfl rfl (Ql (by have:=Pl.J9 hc (s:=s) Ta; omega) (by have:=Pl.J9 hc (s:=s) Ta; omega)))<|au 5 ?_
  exact ⟨by unfold Pl.Ji; rw [LH ai],hm.to⟩
theorem pH(c:Pl.Cm)(p:Tg)(cap:Nat)(s:Int)(w0:World)(hc:Pl.av c=0)(hs:Pl.aA s)  : C Tryz.prog 55 [.agg ⟨fV c p c.bs.length cap⟩,.int .i64 s] w0 fun v w'=>v=.int .i64 (Pl.Ji c s)∧Ext No w0 w':=by
 have hk:=Pl.Jl hc
 refine aH Tryz.func55 fun κ _ Je Jc hm=>?_
 refine au 2 ?_
 refine bT hm fun m1 w hm=>?_
 refine au 10 ?_
 refine cd (fun ai=>?_) fun ai=>?_
 ·
  simp only [bA,bB,bC,bD,bE,bF,dT,dF] at ai
  refine au 8 ?_
  exact ⟨by unfold Pl.Ji; rw [LI ai],hm.to⟩
 ·
  simp only [bA,bB,bC,bD,bE,bF,dT,dF] at ai
  refine au 5 ?_
  refine cA rfl rfl rfl (mX _ _ _ _) hm fun w hm=>au 2 ?_
  refine Ja rfl rfl (Yy rfl rfl Ta (oS Ta Ta Ta))<|Ja rfl rfl (J5 rfl rfl (Ql (by have:=Pl.J9 hc (s:=s) Ta; omega) (by have:=Pl.J9 hc (s:=s) Ta; omega)))<|au 5 ?_
  exact ⟨by unfold Pl.Ji; rw [LH ai],hm.to⟩
theorem He(c:Pl.Cm)(p:Tg)(cap:Nat)(w0:World)(hc:Pl.av c=0):C Tryz.prog 282 [.agg ⟨fV c p c.bs.length cap⟩] w0 fun v w'=>v=.bool (Pl.fc c)∧Ext No w0 w':=by
 refine aH Tryz.func282 fun κ _ Je Jc hm=>?_
 refine au 2 ?_
 refine bT hm fun m1 w hm=>?_
 refine au 6 ?_
 refine cA rfl rfl rfl (wJ c p cap _ hc) hm fun w hm=>au 12 ?_
 exact ⟨rfl,hm.to⟩
theorem Af(c:Pl.Cm)(p:Tg)(cap:Nat)(s k:Int)(m1 m2 m3 m4 m5:Nat)(w0:World)(h1:w0.heap[m1]?=some (ag.row 4 [.bool (Pl.fc c)]).Jd)(h2:w0.heap[m2]?=some (ag.row 3 [.int .i64 (Pl.Ji c s)]).Jd)(h3:w0.heap[m3]?=some (ag.row 60 (fV c p c.bs.length cap)).Jd)(h4:w0.heap[m4]?=some (ag.row 32 [.int .i64 c.to,.int .i64 (Pl.aw c)]).Jd)(h5:w0.heap[m5]?=some (ag.row 3 [.int .i64 s]).Jd)(hc:Pl.av c=0)(hr:Rd w0 p (c.bs.flatMap Jk))(hle:c.bs.length≤cap)(cU:cap≠0→∀ ad,p=some ad→ad.spot=none)(hl:c.bs.length≤140737488355328)(hs:Pl.aA s)(hk:0≤k∧k<Pl.Ji c s):C Tryz.prog 283 [.int .i64 k,.pointer (some ⟨m1,0,none⟩),.pointer (some ⟨m2,0,none⟩),.pointer (some ⟨m3,0,none⟩),.pointer (some ⟨m4,0,none⟩),.pointer (some ⟨m5,0,none⟩)] w0 fun v w'=>∃ p n cap g bb,v=.agg ⟨fV (Pl.QW c s k) p n cap⟩∧Acc 5 1 p n cap ((Pl.QW c s k).bs.flatMap Jk) g bb∧Mem w0 w' No [(g,bb)]:=by
 have hb:=Pl.Xj hc hk
 have xX:=Pl.Vc (s:=s) hc
 have qA:=Pl.Jl hc
 have fC:Pl.QW c s k=Pl.Qu c (c.to+Pl.QD c s k*s) (min s (Pl.aw c-Pl.QD c s k*s)):=rfl
 refine aH Tryz.func283 fun κ _ Je Jc hm=>?_
 refine au 2 ?_
 refine aT hm fun m1 w hm=>?_
 refine au 8 ?_
 refine cd (fun ai=>?_) fun ai=>?_
 ·
  have oQ:Pl.QD c s k=Pl.Ji c s-1-k:=by simp [Pl.QD,ai]
  rw [oQ] at hb fC
  refine au 9 ?_
  refine JS (.pure 0 (.pure 1 (.pure 2 (.pure 3 (.pure 4 (.pure 5 (.pure 6 (.pure 7 (.pure 8 (.pure 10 (.pure 11 (.pure 13 (.pure 14 (.pure 15 (.act2 9 (.pure 12 (.pure 16 (.pure 17 (.pure 18 (.act2 19 (.pure 20 (.pure 21 (.pure 22 (.act 23 (.cut (.act 24 (.pure 25 .done))))))) 23 (.act 19 (.pure 20 (.pure 21 (.pure 22 (.cut (.act 24 (.pure 25 .done)))))))))))) 23 (.act 9 (.pure 12 (.pure 16 (.pure 17 (.pure 18 (.act 19 (.pure 20 (.pure 21 (.pure 22 (.cut (.act 24 (.pure 25 .done))))))))))))))))))))))))))) No fP Te hm fun w hw ar hh=>?_
  have hm:=ar
  refine Ja rfl rfl (Jm (s:=5) (vs:=[_,_,_,_,_]) rfl ag60.h (fun u hu=>((ar.to.trans hu).same _ (Lb.1 h3).1 id).trans h3) rfl)<|au 7 ?_
  refine Ja rfl rfl (Jm (s:=2) (vs:=[_,_]) rfl ag32.h (fun u hu=>((ar.to.trans hu).same _ (Lb.1 h4).1 id).trans h4) rfl)<|au 5 ?_
  refine QN ?_ ?_
  ·
   refine cB rfl rfl rfl (QC _ _ _ Ta) hm hh fun w hm hh=>Ja rfl rfl (QR rfl rfl ((Ql Ta Ta).trans (by omega:c.to+Pl.aw c-c.to=Pl.aw c)))<|au 3 ?_
   refine QN ?_ ?_
   ·
    refine ca rfl rfl rfl (i' c p cap _ _ _ hc (hr.Jj hm.to) hle cU hl Ta) fun v w hR=>?_
    obtain ⟨aK,dE,aj,aI,aF,rfl,ah,ae⟩:=hR
    refine ⟨hh.ext ae.to,?_⟩
    replace hh:=hh.ext ae.to
    replace hm:=hm.Jt ae
    obtain rfl:=ah.J0
    refine au 3 ?_
    refine al hm hh fun m2 w bo hm hh=>?_
    refine au 1 ?_
    refine st hm 0 fun w hm=>?_
    refine au 6 ?_
    refine st hm 2 fun w hm=>?_
    refine au 4 ?_
    exact ⟨aK,(Pl.QW c s k).bs.length,aj,aI,aF,by rw [fC]; rfl,by rw [fC]; exact ah,(hm.pick [1] rfl)⟩
   ·
    refine al hm hh fun m2 w bo hm hh=>?_
    refine ca rfl rfl rfl (i' c p cap _ _ _ hc (hr.Jj hm.to) hle cU hl Ta) fun v w hR=>?_
    obtain ⟨aK,dE,aj,aI,aF,rfl,ah,ae⟩:=hR
    refine ⟨hh.ext ae.to,?_⟩
    replace hh:=hh.ext ae.to
    replace hm:=hm.Jt ae
    obtain rfl:=ah.J0
    refine au 4 ?_
    refine st hm 1 fun w hm=>?_
    refine au 6 ?_
    refine st hm 2 fun w hm=>?_
    refine au 4 ?_
    exact ⟨aK,(Pl.QW c s k).bs.length,aj,aI,aF,by rw [fC]; rfl,by rw [fC]; exact ah,(hm.pick [0] rfl)⟩
  ·
   refine al hm hh fun m2 w bo hm hh=>?_
   refine cB rfl rfl rfl (QC _ _ _ Ta) hm hh fun w hm hh=>Ja rfl rfl (QR rfl rfl ((Ql Ta Ta).trans (by omega:c.to+Pl.aw c-c.to=Pl.aw c)))<|au 3 ?_
   refine ca rfl rfl rfl (i' c p cap _ _ _ hc (hr.Jj hm.to) hle cU hl Ta) fun v w hR=>?_
   obtain ⟨aK,dE,aj,aI,aF,rfl,ah,ae⟩:=hR
   refine ⟨hh.ext ae.to,?_⟩
   replace hh:=hh.ext ae.to
   replace hm:=hm.Jt ae
   obtain rfl:=ah.J0
   refine au 4 ?_
   refine st hm 1 fun w hm=>?_
   refine au 6 ?_
   refine st hm 2 fun w hm=>?_
   refine au 4 ?_
   exact ⟨aK,(Pl.QW c s k).bs.length,aj,aI,aF,by rw [fC]; rfl,by rw [fC]; exact ah,(hm.pick [0] rfl)⟩
 ·
  have oQ:Pl.QD c s k=k:=by simp [Pl.QD,ai]
  rw [oQ] at hb fC
  refine au 3 ?_
  refine JS (.pure 0 (.pure 1 (.pure 2 (.pure 3 (.pure 4 (.pure 5 (.pure 6 (.pure 7 (.pure 8 (.pure 10 (.pure 11 (.pure 13 (.pure 14 (.pure 15 (.act2 9 (.pure 12 (.pure 16 (.pure 17 (.pure 18 (.act2 19 (.pure 20 (.pure 21 (.pure 22 (.act 23 (.cut (.act 24 (.pure 25 .done))))))) 23 (.act 19 (.pure 20 (.pure 21 (.pure 22 (.cut (.act 24 (.pure 25 .done)))))))))))) 23 (.act 9 (.pure 12 (.pure 16 (.pure 17 (.pure 18 (.act 19 (.pure 20 (.pure 21 (.pure 22 (.cut (.act 24 (.pure 25 .done))))))))))))))))))))))))))) No fP Te hm fun w hw ar hh=>?_
  have hm:=ar
  refine Ja rfl rfl (Jm (s:=5) (vs:=[_,_,_,_,_]) rfl ag60.h (fun u hu=>((ar.to.trans hu).same _ (Lb.1 h3).1 id).trans h3) rfl)<|au 7 ?_
  refine Ja rfl rfl (Jm (s:=2) (vs:=[_,_]) rfl ag32.h (fun u hu=>((ar.to.trans hu).same _ (Lb.1 h4).1 id).trans h4) rfl)<|au 5 ?_
  refine QN ?_ ?_
  ·
   refine cB rfl rfl rfl (QC _ _ _ Ta) hm hh fun w hm hh=>Ja rfl rfl (QR rfl rfl ((Ql Ta Ta).trans (by omega:c.to+Pl.aw c-c.to=Pl.aw c)))<|au 3 ?_
   refine QN ?_ ?_
   ·
    refine ca rfl rfl rfl (i' c p cap _ _ _ hc (hr.Jj hm.to) hle cU hl Ta) fun v w hR=>?_
    obtain ⟨aK,dE,aj,aI,aF,rfl,ah,ae⟩:=hR
    refine ⟨hh.ext ae.to,?_⟩
    replace hh:=hh.ext ae.to
    replace hm:=hm.Jt ae
    obtain rfl:=ah.J0
    refine au 3 ?_
    refine al hm hh fun m2 w bo hm hh=>?_
    refine au 1 ?_
    refine st hm 0 fun w hm=>?_
    refine au 6 ?_
    refine st hm 2 fun w hm=>?_
    refine au 4 ?_
    exact ⟨aK,(Pl.QW c s k).bs.length,aj,aI,aF,by rw [fC]; rfl,by rw [fC]; exact ah,(hm.pick [1] rfl)⟩
   ·
    refine al hm hh fun m2 w bo hm hh=>?_
    refine ca rfl rfl rfl (i' c p cap _ _ _ hc (hr.Jj hm.to) hle cU hl Ta) fun v w hR=>?_
    obtain ⟨aK,dE,aj,aI,aF,rfl,ah,ae⟩:=hR
    refine ⟨hh.ext ae.to,?_⟩
    replace hh:=hh.ext ae.to
    replace hm:=hm.Jt ae
    obtain rfl:=ah.J0
    refine au 4 ?_
    refine st hm 1 fun w hm=>?_
    refine au 6 ?_
    refine st hm 2 fun w hm=>?_
    refine au 4 ?_
    exact ⟨aK,(Pl.QW c s k).bs.length,aj,aI,aF,by rw [fC]; rfl,by rw [fC]; exact ah,(hm.pick [0] rfl)⟩
  ·
   refine al hm hh fun m2 w bo hm hh=>?_
   refine cB rfl rfl rfl (QC _ _ _ Ta) hm hh fun w hm hh=>Ja rfl rfl (QR rfl rfl ((Ql Ta Ta).trans (by omega:c.to+Pl.aw c-c.to=Pl.aw c)))<|au 3 ?_
   refine ca rfl rfl rfl (i' c p cap _ _ _ hc (hr.Jj hm.to) hle cU hl Ta) fun v w hR=>?_
   obtain ⟨aK,dE,aj,aI,aF,rfl,ah,ae⟩:=hR
   refine ⟨hh.ext ae.to,?_⟩
   replace hh:=hh.ext ae.to
   replace hm:=hm.Jt ae
   obtain rfl:=ah.J0
   refine au 4 ?_
   refine st hm 1 fun w hm=>?_
   refine au 6 ?_
   refine st hm 2 fun w hm=>?_
   refine au 4 ?_
   exact ⟨aK,(Pl.QW c s k).bs.length,aj,aI,aF,by rw [fC]; rfl,by rw [fC]; exact ah,(hm.pick [0] rfl)⟩
theorem Dt(c:Pl.Cm)(p:Tg)(cap:Nat)(s:Int)(w0:World)(hc:Pl.av c=0)(hs:Pl.aA s)  : C Tryz.prog 261 [.agg ⟨fV c p c.bs.length cap⟩,.int .i64 s] w0 fun v w'=>∃ m1 m2 m3 m4 m5,v=.func (.func 283) #[] ⟨[.pointer (some ⟨m1,0,none⟩),.pointer (some ⟨m2,0,none⟩),.pointer (some ⟨m3,0,none⟩),.pointer (some ⟨m4,0,none⟩),.pointer (some ⟨m5,0,none⟩)]⟩∧Mem w0 w' No [(m1,.row 4 [.bool (Pl.fc c)]),(m2,.row 3 [.int .i64 (Pl.Ji c s)]),(m4,.row 32 [.int .i64 c.to,.int .i64 (Pl.aw c)]),(m5,.row 3 [.int .i64 s]),(m3,.row 60 (fV c p c.bs.length cap))]:=by
 refine aH Tryz.func261 fun κ _ Je Jc hm=>?_
 refine au 2 ?_
 refine bT hm fun m1 w hm=>?_
 refine bT hm fun m2 w hm=>?_
 refine au 6 ?_
 refine cA rfl rfl rfl (Vd _ _ _ _) hm fun w hm=>aT hm fun m3 w hm=>?_
 refine st hm 0 fun w hm=>?_
 refine au 6 ?_
 refine cA rfl rfl rfl (nb c p cap s _ hc hs) hm fun w hm=>aT hm fun m4 w hm=>?_
 refine st hm 0 fun w hm=>?_
 refine au 5 ?_
 refine cA rfl rfl rfl (He c p cap _ hc) hm fun w hm=>aT hm fun m5 w hm=>?_
 refine st hm 0 fun w hm=>?_
 refine au 10 ?_
 exact ⟨_,_,_,_,_,rfl,hm⟩
theorem Ku(c:Pl.Cm)(p:Tg)(cap:Nat)(s k:Int)(w0:World)(hc:Pl.av c=0)(hr:Rd w0 p (c.bs.flatMap Jk))(hle:c.bs.length≤cap)(cU:cap≠0→∀ ad,p=some ad→ad.spot=none)(hl:c.bs.length≤140737488355328)(hs:Pl.aA s)(hk:Pl.aA k):C Tryz.prog 231 [.agg ⟨fV c p c.bs.length cap⟩,.int .i64 s,.int .i64 k] w0 fun v w'=>∃ p n cap g bb,v=.tuple ⟨[.agg ⟨fV (if 0≤k∧k<Pl.Ji c s then Pl.QW c s k else Pl.Gk) p n cap⟩,.bool (decide (0≤k∧k<Pl.Ji c s))]⟩∧Acc 5 1 p n cap ((if 0≤k∧k<Pl.Ji c s then Pl.QW c s k else Pl.Gk).bs.flatMap Jk) g bb∧Mem w0 w' No [(g,bb)]:=by
 refine aH Tryz.func231 fun κ _ Je Jc hm=>?_
 refine au 2 ?_
 refine bT hm fun m1 w hm=>?_
 refine aT hm fun m2 w hm=>?_
 refine au 5 ?_
 by_cases FD:k<0
 ·
  refine au 2 ?_
  refine Ja rfl rfl (JA (c:=true) (VO rfl rfl) (by simpa using FD))<|au 13 ?_
  refine st hm 0 fun w hm=>?_
  refine au 6 ?_
  have cz:¬ (0≤k∧k<Pl.Ji c s):=by omega
  exact ⟨none,0,0,0,.gap,by rw [LH cz,LN cz]; rfl,by rw [LH cz]; exact .nil _ _ _ _,(hm.drop (List.nil_sublist _)).JP⟩
 ·
  refine au 2 ?_
  refine Ja rfl rfl (JA (c:=false) (VO rfl rfl) (by simpa using FD))<|au 4 ?_
  refine cA rfl rfl rfl (nb c p cap s _ hc hs) hm fun w hm=>au 4 ?_
  refine cd (fun ai=>?_) fun ai=>?_
  ·
   simp only [dT] at ai
   refine au 3 ?_
   refine st hm 0 fun w hm=>?_
   refine au 6 ?_
   have cz:¬ (0≤k∧k<Pl.Ji c s):=by omega
   exact ⟨none,0,0,0,.gap,by rw [LH cz,LN cz]; rfl,by rw [LH cz]; exact .nil _ _ _ _,(hm.drop (List.nil_sublist _)).JP⟩
  ·
   simp only [dF] at ai
   have cR:0≤k∧k<Pl.Ji c s:=by omega
   refine au 6 ?_
   refine cT rfl rfl rfl (Dt c p cap s _ hc hs) fun v w hR=>?_
   obtain ⟨q1,q2,q3,q4,q5,rfl,ae⟩:=hR
   replace hm:=hm.Jt ae
   refine au 1 ?_
   refine Qf rfl rfl rfl rfl go283 (Af c p cap s k q1 q2 q3 q4 q5 _ (hm.get (k:=0) rfl) (hm.get (k:=1) rfl) (hm.get (k:=4) rfl) (hm.get (k:=2) rfl) (hm.get (k:=3) rfl) hc (hr.Jj hm.to) hle cU hl hs cR) fun v w hR=>?_
   obtain ⟨aK,dE,aj,aI,aF,rfl,ah,ae⟩:=hR
   refine ⟨trivial,?_⟩
   replace hm:=hm.Jt ae
   obtain rfl:=ah.J0
   refine st hm 6 fun w hm=>?_
   refine Ja rfl rfl (J4 rfl)<|Qc<|QV<|iI rfl<|dD (fin Je rfl (.cell rfl (Ju (vs:=[_,_,_,_,_]) ag60.h (hm.get (k:=6) rfl) rfl) (.tmp rfl .nil)) .more ?_)
   exact ⟨aK,(Pl.QW c s k).bs.length,aj,aI,aF,by rw [LI cR,LQ cR]; rfl,by rw [LI cR]; exact ah,(hm.pick [0] rfl)⟩
theorem search(n:Nat)(fi:FuncId)(l2:Ti)(pr:Nat→Bool)(w0:World)(hn:n≤4611686018427387903)(hg:JH Tryz.prog fi=true)(hf:∀ (k:Nat) w1,k<n→Ext No w0 w1→C Tryz.prog fi (.int .i64 k::l2) w1 fun v w2=>v=.bool (pr k)∧Ext No w1 w2)(pD:∀ j k,j≤k→pr j=true→pr k=true):C Tryz.prog 241 [.int .i64 n,.func (.func fi) #[] ⟨l2⟩] w0 fun v w'=>∃ r:Nat,v=.int .i64 r∧r≤n∧(∀ j,j<r→pr j=false)∧(r<n→pr r=true)∧Ext No w0 w':=by
 refine aH Tryz.func241 fun κ _ Je Jc hm=>?_
 refine au 14 ?_
 refine Jg (ι:=Nat×Nat) rfl (ks:=[1,4]) Tn (fun x=>[(5,.int .i64 x.1),(6,.int .i64 x.2)]) (fun x w=>Mem w0 w No []∧x.1≤x.2∧x.2≤n∧(∀ j,j<x.1→pr j=false)∧(x.2<n→pr x.2=true)) (fun x=>x.2-x.1) (0,n) (⟨hm,LL _,LP _,fun _ h=>absurd h (Nat.not_lt_zero _),fun h=>absurd h (Nat.lt_irrefl _)⟩) Tm (fun x w hM=>?_)
 obtain ⟨hm,eZ,Ut,lv,lx⟩:=hM
 refine au 8 ?_
 refine cd (fun ai=>?_) fun ai=>?_
 ·
  simp only [dT] at ai
  have Nz:x.1≤(x.1+x.2)/2∧(x.1+x.2)/2<x.2:=by omega
  obtain ⟨h,hh2⟩:∃ h,(x.1+x.2)/2=h:=⟨_,rfl⟩
  rw [hh2] at Nz
  refine au 8 ?_
  refine Ja rfl rfl (JX rfl is3 it151 (iJ Ta Ta))<|Ja rfl rfl (V1 rfl rfl Ta ((MH Ta).trans (by rw [hh2])))<|Ja rfl rfl (JX rfl is151 it3 (Ql Ta Ta))<|au 7 ?_
  refine Qf rfl rfl rfl rfl hg (hf h _ Ta hm.to) fun v w hR=>?_
  obtain ⟨rfl,hE⟩:=hR
  refine ⟨trivial,?_⟩
  replace hm:=hm.ext hE
  refine au 3 ?_
  refine cd (fun ao=>?_) fun ao=>?_
  ·
   simp only [bE] at ao
   refine au 6 ?_
   first | exact next (h+1,x.2) Td ⟨hm,Td,Ut,fun j hj=>Bool.eq_false_iff.2 fun ht=>by (rw [pD j h (by simp only at hj; omega) ht] at ao; cases ao),lx⟩ ⟨nx h,Tm⟩ | exact next (x.1,h) Td ⟨hm,Td,Td,lv,fun _=>ao⟩ Tm
  ·
   simp only [bF] at ao
   refine au 5 ?_
   first | exact next (h+1,x.2) Td ⟨hm,Td,Ut,fun j hj=>Bool.eq_false_iff.2 fun ht=>by (rw [pD j h (by simp only at hj; omega) ht] at ao; cases ao),lx⟩ ⟨nx h,Tm⟩ | exact next (x.1,h) Td ⟨hm,Td,Td,lv,fun _=>ao⟩ Tm
 ·
  simp only [dF] at ai
  refine au 13 ?_
  exact ⟨x.1,rfl,Ta,lv,fun h=>by rw [show x.1=x.2 by omega]; exact lx Ta,hm.to⟩
theorem Uu(k:Nat)(i:Int)(m1 m2:Nat)(s:Int)(pf:Tg)(cf:Nat)(pb:Tg)(cb:Nat)(cs:List Pl.Cm)(w0:World)(hF:Rd w0 pf ((J2 s cs).flatMap encI))(vt:Pl.ZF s cs)(fy:cs.length≤1000000∧Pl.first s cs cs.length≤4611686018427387903)(hk:k<cs.length)(h1:w0.heap[m1]?=some (ag.row 284 (nmV s pf (J2 s cs).length cf pb cb)).Jd)(h2:w0.heap[m2]?=some (ag.row 3 [.int .i64 i]).Jd):C Tryz.prog 260 [.int .i64 k,.pointer (some ⟨m1,0,none⟩),.pointer (some ⟨m2,0,none⟩)] w0 fun v w'=>v=.bool (decide (i<Pl.first s cs (k+1)))∧Ext No w0 w':=by
 have bY:=Xx s cs
 have hi:=ZD (s:=s) (cs:=cs) (k:=k+1) Ta
 obtain ⟨qb,qo,rfl⟩:=hF.bS Jq Tb hi
 refine aH Tryz.func260 fun κ _ Je Jc hm=>?_
 refine au 6 ?_
 refine dw [0,3,6,9,12,15,18,21,24] hm fun w hw ar hh hm=>?_
 refine au 5 ?_
 refine Ja rfl rfl (J3 rfl sc3.h (hF.Jj ar.to).nd Jq hi rfl)<|au 7 ?_
 exact ⟨Tc,hm.to⟩
theorem Hf(i:Int)(s:Int)(pf:Tg)(cf:Nat)(pb:Tg)(cb:Nat)(cs:List Pl.Cm)(w0:World)(hF:Rd w0 pf ((J2 s cs).flatMap encI))(vt:Pl.ZF s cs)(fy:cs.length≤1000000∧Pl.first s cs cs.length≤4611686018427387903)(h0:0≤i)(h1:i<Pl.first s cs cs.length):C Tryz.prog 230 [.agg ⟨nmV s pf (J2 s cs).length cf pb cb⟩,.int .i64 i] w0 fun v w'=>∃ k:Nat,v=.int .i64 k∧(k<cs.length∧Pl.first s cs k≤i∧i<Pl.first s cs (k+1))∧Ext No w0 w':=by
 have bY:=Xx s cs
 refine aH Tryz.func230 fun κ _ Je Jc hm=>?_
 refine au 2 ?_
 refine bT hm fun m1 w hm=>?_
 refine bT hm fun m2 w hm=>?_
 refine au 8 ?_
 refine Ja rfl rfl (QR rfl rfl ((Ql Ta Ta).trans (by omega:(((J2 s cs).length:Nat):Int)-1=(cs.length:Nat))))<|au 1 ?_
 refine cT rfl rfl rfl (search cs.length _ _ (fun k=>decide (i<Pl.first s cs (k+1))) _ Ta go260 (fun k w1 hk hx=>Uu k i m1 m2 s pf cf pb cb cs w1 ((hF.Jj hm.to).Jj hx) vt fy hk ((hx.same _ (hm.lt (p:=(m1,_)) (Js (L:=[_,_]) (k:=1) rfl)) id).trans (hm.get (k:=1) rfl)) ((hx.same _ (hm.lt (p:=(m2,_)) (Js (L:=[_,_]) (k:=0) rfl)) id).trans (hm.get (k:=0) rfl))) (zy vt i)) fun v w hR=>?_
 obtain ⟨r_,rfl,Bp,Du,NA,hE⟩:=hR
 replace hm:=hm.ext hE
 refine au 5 ?_
 exact ⟨r_,rfl,zz h0 h1 Bp Du NA,hm.to⟩
theorem Dw(s:Int)(pf:Tg)(cf:Nat)(pb:Tg)(cb:Nat)(cs:List Pl.Cm)(w0:World)(hF:Rd w0 pf ((J2 s cs).flatMap encI))(vt:Pl.ZF s cs)(fy:cs.length≤1000000∧Pl.first s cs cs.length≤4611686018427387903):C Tryz.prog 186 [.agg ⟨nmV s pf (J2 s cs).length cf pb cb⟩] w0 fun v w'=>v=.int .i64 (Pl.first s cs cs.length)∧Ext No w0 w':=by
 have bY:=Xx s cs
 have hi:=ZD (s:=s) (cs:=cs) (k:=cs.length) Ta
 obtain ⟨qb,qo,rfl⟩:=hF.bS Jq Tb hi
 refine aH Tryz.func186 fun κ _ Je Jc hm=>?_
 refine au 2 ?_
 refine bT hm fun m1 w hm=>?_
 refine au 10 ?_
 refine Ja rfl rfl (QR rfl rfl ((Ql Ta Ta).trans (by omega:(((J2 s cs).length:Nat):Int)-1=(cs.length:Nat))))<|au 1 ?_
 refine Ja rfl rfl (J3 rfl sc3.h (hF.Jj hm.to).nt Jq hi rfl)<|au 5 ?_
 exact ⟨rfl,hm.to⟩
theorem ug(m:Nat)(s:Int)(pf:Tg)(cf:Nat)(pb:Tg)(cb:Nat)(pl:Tg)(cl:Nat)(xs:List aa)(w0:World)(hP:w0.heap[m]?=some (ag.row 286 (MG s pf (J2 s (xs.map aa.cm)).length cf pb cb pl xs.length cl)).Jd)(hF:Rd w0 pf ((J2 s (xs.map aa.cm)).flatMap encI))(hB:Rd w0 pb ((beforeL (xs.map aa.cm)).flatMap encI))(hL:Rd w0 pl (xs.flatMap JM))(vt:Pl.ZF s (xs.map aa.cm))(fy:(xs.map aa.cm).length≤1000000∧Pl.first s (xs.map aa.cm) (xs.map aa.cm).length≤4611686018427387903):C Tryz.prog 149 [.pointer (some ⟨m,0,none⟩)] w0 fun v w'=>v=.int .i64 (Pl.first s (xs.map aa.cm) (xs.map aa.cm).length)∧Ext No w0 w':=by
 refine aH Tryz.func149 fun κ _ Je Jc hm=>?_
 refine au 20 ?_
 refine Ja rfl rfl (Jm (s:=3) (vs:=[_,_,_]) rfl ag284.h (Qo ((hm.to.same _ (Lb.1 hP).1 id).trans hP)) rfl)<|cA rfl rfl rfl (Dw s pf cf pb cb (xs.map aa.cm) _ (hF.Jj hm.to) vt fy) hm fun w hm=>au 5 ?_
 exact ⟨rfl,hm.to⟩
theorem Hg(i:Int)(m:Nat)(s:Int)(pf:Tg)(cf:Nat)(pb:Tg)(cb:Nat)(pl:Tg)(cl:Nat)(xs:List aa)(w0:World)(hP:w0.heap[m]?=some (ag.row 286 (MG s pf (J2 s (xs.map aa.cm)).length cf pb cb pl xs.length cl)).Jd)(hF:Rd w0 pf ((J2 s (xs.map aa.cm)).flatMap encI))(hB:Rd w0 pb ((beforeL (xs.map aa.cm)).flatMap encI))(hL:Rd w0 pl (xs.flatMap JM))(vt:Pl.ZF s (xs.map aa.cm))(fy:(xs.map aa.cm).length≤1000000∧Pl.first s (xs.map aa.cm) (xs.map aa.cm).length≤4611686018427387903)(hD:∀ x∈xs,x.d.jO w0∧x.d.bs.length≤140737488355328)(hs:Pl.aA s∧1≤s)(hi64:Pl.aA i):C Tryz.prog 185 [.pointer (some ⟨m,0,none⟩),.int .i64 i] w0 fun v w'=>∃ (ix k:Int) (d:Pl.Cm) (q:Tg) (n cp g:Nat) (bb:ag),v=.tuple ⟨[.agg ⟨.int .i64 ix::.int .i64 k::fV d q n cp⟩,.bool (decide (0≤i∧i<Pl.first s (xs.map aa.cm) (xs.map aa.cm).length))]⟩∧Acc 5 1 q n cp (d.bs.flatMap Jk) g bb∧Mem w0 w' No [(g,bb)]∧(0≤i∧i<Pl.first s (xs.map aa.cm) (xs.map aa.cm).length→ix=i∧0≤k∧(Pl.steps s 0 (xs.map aa.cm))[i.toNat]?=some (k.toNat,d))∧(¬ (0≤i∧i<Pl.first s (xs.map aa.cm) (xs.map aa.cm).length)→ix=0∧k=0∧d=Pl.Gk):=by
 refine aH Tryz.func185 fun κ _ Je Jc hm=>?_
 refine au 2 ?_
 refine aT hm fun m1 w hm=>?_
 refine au 5 ?_
 by_cases h0:i<0
 ·
  have wK:¬ (0≤i∧i<Pl.first s (xs.map aa.cm) (xs.map aa.cm).length):=by omega
  refine au 3 ?_
  refine Ja rfl rfl (JA (c:=true) (Jx rfl) (LQ h0))<|au 11 ?_
  refine st hm 0 fun w hm=>?_
  refine au 6 ?_
  exact ⟨0,0,Pl.Gk,none,0,0,0,.gap,by rw [LN wK]; rfl,.nil _ _ _ _,(hm.drop (List.nil_sublist _)).JP,fun h=>absurd h wK,fun _=>⟨rfl,rfl,rfl⟩⟩
 ·
  refine au 3 ?_
  refine Ja rfl rfl (JA (c:=false) (Jx rfl) (LN h0))<|au 2 ?_
  refine cA rfl rfl rfl (ug m s pf cf pb cb pl cl xs _ ((hm.to.same _ (Lb.1 hP).1 id).trans hP) (hF.Jj hm.to) (hB.Jj hm.to) (hL.Jj hm.to) vt fy) hm fun w hm=>au 4 ?_
  refine cd (fun ai=>?_) fun ai=>?_
  ·
   simp only [dT] at ai
   have wK:¬ (0≤i∧i<Pl.first s (xs.map aa.cm) (xs.map aa.cm).length):=by omega
   refine au 3 ?_
   refine st hm 0 fun w hm=>?_
   refine au 6 ?_
   exact ⟨0,0,Pl.Gk,none,0,0,0,.gap,by rw [LN wK]; rfl,.nil _ _ _ _,(hm.drop (List.nil_sublist _)).JP,fun h=>absurd h wK,fun _=>⟨rfl,rfl,rfl⟩⟩
  ·
   simp only [dF] at ai
   have jH:0≤i∧i<Pl.first s (xs.map aa.cm) (xs.map aa.cm).length:=by omega
   refine au 7 ?_
   refine Ja rfl rfl (Jm (s:=3) (vs:=[_,_,_]) rfl ag284.h (Qo ((hm.to.same _ (Lb.1 hP).1 id).trans hP)) rfl)<|au 1 ?_
   refine cT rfl rfl rfl (Hf i s pf cf pb cb (xs.map aa.cm) _ (hF.Jj hm.to) vt fy jH.1 jH.2) fun v w hR=>?_
   obtain ⟨k_,rfl,⟨dq,iB,hk3⟩,hE⟩:=hR
   replace hm:=hm.ext hE
   rw [Lj] at dq
   obtain ⟨c,hi⟩:∃ y_,xs[k_]?=some y_:=⟨_,La dq⟩
   have lQ:(xs.map aa.cm)[k_]?=some c.cm:=by rw [Lt,hi]; rfl
   have Bf:=Pl.Yo s lQ
   have Uv:=ZD (s:=s) (cs:=(xs.map aa.cm)) (k:=k_) (by rw [Lj]; omega)
   obtain ⟨fC,Be⟩:=hD c (Ld hi)
   have ko:=vt c.cm (Ld lQ)
   have bY:=Xx s (xs.map aa.cm)
   rw [Lj] at bY
   have NC:=Pl.VG (s:=s) k_ vt
   obtain ⟨qb,qo,rfl⟩:=hL.bS Jf Tb hi
   obtain ⟨b2,o2,rfl⟩:=hF.bS Jq Tb Uv
   have cR:0≤i-Pl.first s (xs.map aa.cm) k_∧i-Pl.first s (xs.map aa.cm) k_<Pl.Ji c.cm s:=by omega
   refine au 4 ?_
   refine JS (.pure 0 (.pure 1 (.pure 2 (.pure 3 (.pure 4 (.pure 5 (.pure 6 (.pure 7 (.pure 8 (.pure 9 (.pure 10 (.pure 11 (.pure 12 (.pure 13 (.pure 14 (.pure 15 (.pure 16 (.pure 17 (.pure 18 (.pure 19 (.pure 20 (.pure 21 (.act2 22 (.pure 23 (.pure 24 (.pure 25 (.act 26 (.cut (.act 27 (.pure 28 .done))))))) 26 (.act 22 (.pure 23 (.pure 24 (.pure 25 (.cut (.act 27 (.pure 28 .done)))))))))))))))))))))))))))))) No fP Te hm fun w hw ar hh=>?_
   have hm:=ar
   refine au 6 ?_
   refine Ja rfl rfl (JU rfl ag60.h (hL.Jj ar.to).nd Jf hi)<|au 13 ?_
   refine Ja rfl rfl (J3 rfl sc3.h (hF.Jj ar.to).nd Jq Uv rfl)<|au 1 ?_
   refine QN ?_ ?_
   ·
    refine ca rfl rfl rfl (Ku c.cm c.d.p c.d.cap s _ _ ko.1 (fC.rd.Jj hm.to) fC.le fC.spot Be hs.1 (by simp only [Pl.aA]; omega)) fun v w hR=>?_
    rw [LI cR,LQ cR] at hR
    obtain ⟨aK,dE,aj,aI,aF,rfl,ah,ae⟩:=hR
    refine ⟨hh.ext ae.to,?_⟩
    replace hh:=hh.ext ae.to
    replace hm:=hm.Jt ae
    obtain rfl:=ah.J0
    refine au 3 ?_
    refine al hm hh fun m2 w bo hm hh=>?_
    refine au 1 ?_
    refine st hm 0 fun w hm=>?_
    refine au 10 ?_
    refine st hm 2 fun w hm=>?_
    refine au 5 ?_
    exact ⟨i,k_,Pl.QW c.cm s (i-Pl.first s (xs.map aa.cm) k_),aK,_,aj,aI,aF,by rw [LQ jH]; rfl,ah,(hm.pick [1] rfl),fun _=>⟨rfl,Ta,by (have h9:=Pl.iT (b:=0) (i:=i.toNat) vt lQ Ta Ta); rw [LV,show ((i.toNat:Nat):Int)=i by omega] at h9; exact h9⟩,fun h=>absurd jH h⟩
   ·
    refine al hm hh fun m2 w bo hm hh=>?_
    refine ca rfl rfl rfl (Ku c.cm c.d.p c.d.cap s _ _ ko.1 (fC.rd.Jj hm.to) fC.le fC.spot Be hs.1 (by simp only [Pl.aA]; omega)) fun v w hR=>?_
    rw [LI cR,LQ cR] at hR
    obtain ⟨aK,dE,aj,aI,aF,rfl,ah,ae⟩:=hR
    refine ⟨hh.ext ae.to,?_⟩
    replace hh:=hh.ext ae.to
    replace hm:=hm.Jt ae
    obtain rfl:=ah.J0
    refine au 4 ?_
    refine st hm 1 fun w hm=>?_
    refine au 10 ?_
    refine st hm 2 fun w hm=>?_
    refine au 5 ?_
    exact ⟨i,k_,Pl.QW c.cm s (i-Pl.first s (xs.map aa.cm) k_),aK,_,aj,aI,aF,by rw [LQ jH]; rfl,ah,(hm.pick [0] rfl),fun _=>⟨rfl,Ta,by (have h9:=Pl.iT (b:=0) (i:=i.toNat) vt lQ Ta Ta); rw [LV,show ((i.toNat:Nat):Int)=i by omega] at h9; exact h9⟩,fun h=>absurd jH h⟩
theorem Uw(s:Int)(q:Tg)(cq:Nat)(xs:List aa)(w0:World)(hq:Rd w0 q (xs.flatMap JM))(aq:∀ c∈xs,Pl.av c.cm=0∧c.d.jO w0∧c.d.bs.length≤140737488355328)(hs:Pl.aA s∧1≤s)(vt:Pl.ZF s (xs.map aa.cm))(fy:xs.length≤1000000∧Pl.first s (xs.map aa.cm) (xs.map aa.cm).length≤4611686018427387903):C Tryz.prog 146 [.int .i64 s,.slice q xs.length cq] w0 fun v w'=>((v=.pointer none∧(Pl.total 0 (Pl.targets (xs.map aa.cm))).isSome=false∧Ext No w0 w')∨∃ (m:Nat) (pf pb pl:Tg) (cf cb cl gf gb gl:Nat) (bf bb bl:ag) (ys:List aa) (B:Tf),v=.pointer (some ⟨m,0,none⟩)∧(Pl.total 0 (Pl.targets (xs.map aa.cm))).isSome=true∧Acc 3 1 pf (J2 s (xs.map aa.cm)).length cf ((J2 s (xs.map aa.cm)).flatMap encI) gf bf∧Acc 3 1 pb (J2 s (xs.map aa.cm)).length cb ((beforeL (xs.map aa.cm)).flatMap encI) gb bb∧Acc 60 5 pl ys.length cl (ys.flatMap JM) gl bl∧ys.map aa.cm=(xs.map aa.cm)∧(∀ y∈ys,bh B 5 y.d)∧Mem w0 w' No ((m,.row 286 (MG s pf (J2 s (xs.map aa.cm)).length cf pb cb pl ys.length cl))::(gf,bf)::(gb,bb)::(gl,bl)::B)):=by
 refine aH Tryz.func146 fun κ _ Je Jc hm=>?_
 refine au 12 ?_
 refine Ye rfl rfl (LN Ta)<|au 5 ?_
 refine Jb (l:=[_]) rfl rfl sl134.h z3.h rfl rfl rfl rfl rfl rfl rfl hm trivial fun m1 w c5 hm hh=>Jb (l:=[_]) rfl rfl sl134.h z3.h rfl rfl rfl rfl rfl rfl rfl hm trivial fun m2 w bo hm hh=>Ja rfl rfl (Qe (cs:=[_,_,_]) z284.h ft284.h rfl rfl rfl rfl rfl)<|Ja rfl rfl (Qe (cs:=[_,_,_,_]) z286.h ft286.h rfl rfl rfl rfl rfl)<|bT hm fun m3 w hm=>?_
 refine au 6 ?_
 replace hm:=hm.JP
 have az:=Acc.nil 32 2 none 0
 refine au 11 ?_
 refine Jg (ι:=Nat×Ow) rfl (ks:=[0,1,4,5,21,22]) Tn (fun x=>[(23,.int .i64 x.1),(6,.slice x.2.p x.2.n x.2.cap)]) (fun x w=>Mem w0 w No ((x.2.g,x.2.b)::(m3,.row 286 [.int .i64 s,.slice (some ⟨m1,0,none⟩) 1 1,.slice (some ⟨m2,0,none⟩) 1 1,.slice none 0 0])::(m2,.row 3 [.int .i64 0])::[(m1,.row 3 [.int .i64 0])])∧Acc 32 2 x.2.p x.2.n x.2.cap (((Pl.targets (xs.map aa.cm)).take x.1).flatMap Q9) x.2.g x.2.b∧x.1≤xs.length∧x.2.n=x.1) (fun x=>xs.length-x.1) (0,⟨none,0,0,0,.gap⟩) (⟨hm,az,LL _,rfl⟩) Tm (fun x w hM=>?_)
 obtain ⟨hm,az,hk,hn⟩:=hM
 refine au 6 ?_
 refine cd (fun ao=>?_) fun ao=>?_
 ·
  simp only [dT] at ao
  obtain ⟨c,hi⟩:∃ y_,xs[x.1]?=some y_:=⟨_,La Ta⟩
  obtain ⟨qb,qo,rfl⟩:=hq.bS Jf Tb hi
  have htg:(Pl.targets (xs.map aa.cm))[x.1]?=some (c.cm.to,Pl.aw c.cm):=by simp only [Pl.targets,List.map_map,Lt,hi]; rfl
  refine au 7 ?_
  refine Ja rfl rfl (JU rfl ag60.h (hq.Jj hm.to).nt Jf hi)<|aT hm fun m4 w hm=>?_
  refine st hm 0 fun w hm=>?_
  refine au 5 ?_
  refine cA rfl rfl rfl (Vd c.cm c.d.p c.d.cap _) hm fun w hm=>Jb (l:=[_,_]) rfl rfl sl240.h z32.h rfl rfl rfl rfl rfl rfl rfl hm trivial fun m5 w fQ hm hh=>Jy rfl rfl rfl rfl rfl rfl sl240.h sl240.h z32.h rfl rfl (Rd.JL (hm.get (k:=0) rfl)) rfl az hm 2 rfl Ta Ta fun dJ aM cD dK w az hm=>au 8 ?_
  refine next (x.1+1,⟨dJ,_,aM,cD,dK⟩) Td ⟨(hm.pick [2,3,4,5] rfl),az.to ?_,Td,Td⟩ ⟨nx x.1,Tm⟩
  rw [LC,htg]; simp [Q9]
 ·
  simp only [dF] at ao
  have b8:x.1=xs.length:=by omega
  have IW:(Pl.targets (xs.map aa.cm)).length=xs.length:=by simp [Pl.targets]
  have hxn:x.2.n=(Pl.targets (xs.map aa.cm)).length:=by omega
  rw [b8,← IW,Lv] at az
  have ja6:=Pl.vV (cs:=(xs.map aa.cm)) (fun d hd=>by obtain ⟨c,hc,rfl⟩:=Ln.1 hd; exact (aq c hc).1)
  refine au 9 ?_
  refine cA rfl rfl rfl (C.eqv (z7 x.2.p x.2.cap (Pl.targets (xs.map aa.cm)) _ (az.rd hm 0 rfl) Ta ja6) (by rw [hxn])) hm fun w hm=>au 13 ?_
  refine cd (fun aD=>?_) fun aD=>?_
  ·
   simp only [bE] at aD
   refine au 8 ?_
   exact .inl ⟨rfl,aD,hm.to⟩
  ·
   simp only [bF] at aD
   obtain ⟨T,hT⟩:=Option.isSome_iff_exists.1 aD
   have PE:=Pl.gE hT Tb (fun d hd=>by obtain ⟨c,hc,rfl⟩:=Ln.1 hd; have:=Pl.Jl (aq c hc).1; omega)
   have hff:∀ k,k≤xs.length→0≤Pl.first s (xs.map aa.cm) k∧Pl.first s (xs.map aa.cm) k≤4611686018427387903:=fun k hk=>⟨Pl.VG k vt,Int.le_trans (oZ vt (by rw [Lj]; exact hk)) fy.2⟩
   refine au 11 ?_
   replace hm:=hm.tail.JP
   refine Jg (ι:=Nat×Ow×Ow×Ow×List aa×List (Nat×ag)) rfl (ks:=[0,4,5,40,41]) Tn (fun y=>[(42,.int .i64 y.1)]) (fun y w=>Mem w0 w No ((m3,.row 286 [.int .i64 s,.slice y.2.1.p y.2.1.n y.2.1.cap,.slice y.2.2.1.p y.2.2.1.n y.2.2.1.cap,.slice y.2.2.2.1.p y.2.2.2.1.n y.2.2.2.1.cap])::(y.2.1.g,y.2.1.b)::(y.2.2.1.g,y.2.2.1.b)::(y.2.2.2.1.g,y.2.2.2.1.b)::y.2.2.2.2.2)∧Acc 3 1 y.2.1.p y.2.1.n y.2.1.cap (((List.range (y.1+1)).map (Pl.first s (xs.map aa.cm))).flatMap encI) y.2.1.g y.2.1.b∧Acc 3 1 y.2.2.1.p y.2.2.1.n y.2.2.1.cap (((List.range (y.1+1)).map (Pl.before (xs.map aa.cm))).flatMap encI) y.2.2.1.g y.2.2.1.b∧Acc 60 5 y.2.2.2.1.p y.2.2.2.1.n y.2.2.2.1.cap (y.2.2.2.2.1.flatMap JM) y.2.2.2.1.g y.2.2.2.1.b∧y.2.2.2.2.1.map aa.cm=(xs.map aa.cm).take y.1∧(∀ z∈y.2.2.2.2.1,bh y.2.2.2.2.2 5 z.d)∧y.1≤xs.length∧y.2.1.n=y.1+1∧y.2.2.1.n=y.1+1∧y.2.2.2.1.n=y.1) (fun y=>xs.length-y.1) (0,⟨some ⟨m1,0,none⟩,1,1,m1,.row 3 [.int .i64 0]⟩,⟨some ⟨m2,0,none⟩,1,1,m2,.row 3 [.int .i64 0]⟩,⟨none,0,0,0,.gap⟩,[],[]) (⟨(hm.pick [1,3,2,0] rfl),(Acc.row (l:=[.int .i64 0]) rfl).to (by simp [encI,Pl.first]),(Acc.row (l:=[.int .i64 0]) rfl).to (by simp [encI,Pl.before]),.nil _ _ _ _,Tc,Tc,LL _,rfl,rfl,rfl⟩) Tm (fun y w hM=>?_)
   obtain ⟨hm,uh,aS,nf,Dy,hH,Bj,hnf,hnb,Bq⟩:=hM
   refine au 6 ?_
   refine cd (fun bg=>?_) fun bg=>?_
   ·
    simp only [dT] at bg
    obtain ⟨c,hi⟩:∃ y_,xs[y.1]?=some y_:=⟨_,La Ta⟩
    obtain ⟨qb,qo,rfl⟩:=hq.bS Jf Tb hi
    obtain ⟨hc,fC,bL⟩:=aq c (Ld hi)
    have lQ:(xs.map aa.cm)[y.1]?=some c.cm:=by rw [Lt,hi]; rfl
    have Bf:=Pl.Yo s lQ
    have re:=Pl.jw lQ
    have Uv:=Pl.Ch (f:=Pl.first s (xs.map aa.cm)) (LP y.1)
    have hib:=Pl.Ch (f:=Pl.before (xs.map aa.cm)) (LP y.1)
    obtain ⟨b2,o2,PF⟩:=(uh.rd hm 1 rfl).bS Jq Tb Uv
    obtain ⟨b3,o3,hqb⟩:=(aS.rd hm 2 rfl).bS Jq Tb hib
    have hf1:=hff y.1 Ta
    have hf2:=hff (y.1+1) Ta
    have zW:=PE y.1
    have M0:=PE (y.1+1)
    have aD:=fC.le
    refine au 8 ?_
    refine Ja rfl rfl (JU rfl ag60.h (hq.Jj hm.to).nt Jf hi)<|aT hm fun m4 w hm=>?_
    refine au 1 ?_
    refine st hm 0 fun w hm=>?_
    refine au 3 ?_
    refine dw [0,3,6,9,12,15,19,22,2,25,27,30,34] hm fun w hw ar hh hm=>?_
    refine au 6 ?_
    refine ca rfl rfl rfl (qZ c.cm c.d.p c.d.cap _ (fC.rd.Jj hm.to) bL) fun v w hR=>?_
    obtain ⟨Dh,n_c,fj,PN,PO,rfl,fH,ae⟩:=hR
    refine ⟨hh.ext ae.to,?_⟩
    replace hh:=hh.ext ae.to
    replace hm:=hm.Jt ae
    obtain rfl:=fH.J0
    refine Jb (l:=[_,_,_,_,_]) rfl rfl sl24.h z60.h rfl rfl rfl rfl rfl rfl rfl hm hh fun m5 w fQ hm hh=>au 1 ?_
    refine Jy rfl rfl rfl rfl rfl rfl sl24.h sl24.h z60.h rfl rfl (Rd.JL (hm.get (k:=0) rfl)) rfl nf hm 6 rfl Ta Ta fun PU pI g_l PV w nf hm=>?_
    replace hm:=hm.Gp 1 rfl
    refine au 2 ?_
    refine st hm 2 fun w hm=>?_
    refine au 3 ?_
    refine dw [0,3,6,9,12,15,18,21,24,27,30,33,36,39,42,45,49,51,55,2,58,60,63,66,70] hm fun w hw ar hh hm=>?_
    refine au 12 ?_
    refine Ja rfl rfl (Qy rfl rfl sl134.h PF Ta Ta)<|Ja rfl rfl (J3 rfl sc3.h (PF▸uh.rd ar 3 rfl).nd Jq Uv rfl)<|au 2 ?_
    refine cB rfl rfl rfl (nb c.cm c.d.p c.d.cap s _ hc hs.1) hm hh fun w hm hh=>au 1 ?_
    refine Jb (l:=[_]) rfl rfl sl134.h z3.h rfl rfl rfl rfl rfl rfl rfl hm hh fun m6 w Kv hm hh=>au 1 ?_
    refine Jy rfl rfl rfl rfl rfl rfl sl134.h sl134.h z3.h rfl rfl (Rd.JL (hm.get (k:=0) rfl)) rfl uh hm 4 rfl Ta Ta fun p_f Ux g_f b_f w uh hm=>au 3 ?_
    refine st hm 3 fun w hm=>?_
    refine au 2 ?_
    refine dw [0,3,6,9,12,15,18,21,24,27,30,33,36,39,42,46,48,51,55,2,58,60,63,66,70] hm fun w hw ar hh hm=>?_
    refine au 12 ?_
    refine Ja rfl rfl (Qy rfl rfl sl134.h hqb Ta Ta)<|Ja rfl rfl (J3 rfl sc3.h (hqb▸aS.rd ar 5 rfl).nd Jq hib rfl)<|au 1 ?_
    refine cB rfl rfl rfl (Vd c.cm c.d.p c.d.cap _) hm hh fun w hm hh=>Ja rfl rfl (QF rfl fv32_1 rfl)<|au 1 ?_
    refine Jb (l:=[_]) rfl rfl sl134.h z3.h rfl rfl rfl rfl rfl rfl rfl hm hh fun m7 w Dz hm hh=>au 1 ?_
    refine Jy rfl rfl rfl rfl rfl rfl sl134.h sl134.h z3.h rfl rfl (Rd.JL (hm.get (k:=0) rfl)) rfl aS hm 6 rfl Ta Ta fun jc bK fY fX w aS hm=>au 3 ?_
    refine st hm 4 fun w hm=>?_
    refine au 7 ?_
    refine next (y.1+1,⟨p_f,_,Ux,g_f,b_f⟩,⟨jc,_,bK,fY,fX⟩,⟨PU,_,pI,g_l,PV⟩,y.2.2.2.2.1++[jx c.cm Dh fj],y.2.2.2.2.2++[(PN,PO)]) Td ⟨(hm.Jp [4,5,6,7] 8 rfl),uh.to ?_,aS.to ?_,nf.to ?_,?_,qB hH (fH.held Tc),Td,Td,Td,Td⟩ ⟨nx y.1,Tm⟩
    · rw [List.range_succ (n:=y.1+1),Lx,Lh,List.map_singleton,List.flatMap_singleton,Bf]; rfl
    · rw [List.range_succ (n:=y.1+1),Lx,Lh,List.map_singleton,List.flatMap_singleton,re]; rfl
    · rw [Lh,List.flatMap_singleton]; rfl
    · rw [Lx,Dy,LC,lQ]; rfl
   ·
    simp only [dF] at bg
    have b8:y.1=(xs.map aa.cm).length:=by rw [Lj]; omega
    have bY:=Xx s (xs.map aa.cm)
    rw [b8] at uh aS Dy
    rw [Lv] at Dy
    have fz:=LM List.length Dy
    rw [Lj] at fz
    rw [show y.2.1.n=(J2 s (xs.map aa.cm)).length by omega] at uh hm
    rw [show y.2.2.1.n=(J2 s (xs.map aa.cm)).length by omega] at aS hm
    rw [show y.2.2.2.1.n=y.2.2.2.2.1.length by omega] at nf hm
    refine au 13 ?_
    exact .inr ⟨m3,y.2.1.p,y.2.2.1.p,y.2.2.2.1.p,y.2.1.cap,y.2.2.1.cap,y.2.2.2.1.cap,y.2.1.g,y.2.2.1.g,y.2.2.2.1.g,y.2.1.b,y.2.2.1.b,y.2.2.2.1.b,y.2.2.2.2.1,y.2.2.2.2.2,rfl,aD,uh,aS,nf,Dy,hH,hm⟩
theorem rf(D:Pl.Dv)(m:Nat)(Z:Tf)(w0:World)(hZ:Jr w0 Z)(hz:JV 112 258 5 D m Z)(a b:Int)(ha:Pl.aA a)(hb:Pl.aA b):C Tryz.prog 217 [.pointer (some ⟨m,0,none⟩),.agg ⟨[.int .i64 a,.int .i64 b]⟩] w0 fun v w'=>v=.int .i64 (if Pl.eF D a b=true then 0 else 2)∧Ext No w0 w':=by
 have aq:=hz.ok
 have o4:=aq.max
 have ho:Pl.eF D a b=(Pl.valid a b&&decide (a+b≤((D.cnt*D.sz:Nat):Int))):=rfl
 refine aH Tryz.func217 fun κ _ Je Jc hm=>?_
 refine au 2 ?_
 refine bT hm fun m1 w hm=>?_
 refine au 14 ?_
 cases hv:Pl.valid a b
 ·
  refine au 2 ?_
  refine cA rfl rfl rfl (C.as (v:=.bool false) (Qw a b _ ha hb) (by rw [hv])) hm fun w hm=>au 24 ?_
  first | exact ⟨by rw [ho,hv]; rfl,hm.to⟩ | exact ⟨by rw [ho,hv,LN Ta]; rfl,hm.to⟩
 ·
  have Hh:=Pl.gC hv
  refine au 2 ?_
  refine cA rfl rfl rfl (C.as (v:=.bool true) (Qw a b _ ha hb) (by rw [hv])) hm fun w hm=>au 3 ?_
  refine cA rfl rfl rfl (QC a b _ (by simp only [Pl.aA]; omega)) hm fun w hm=>au 1 ?_
  refine cA rfl rfl rfl (Xt D m Z _ (hZ.ext hm.to) hz) hm fun w hm=>au 1 ?_
  refine cA rfl rfl rfl (X6 D m Z _ (hZ.ext hm.to) hz) hm fun w hm=>Ja rfl rfl (Vy rfl rfl ((n4 (by rw [Nat.mul_comm]; omega)).trans (show _=((D.cnt*D.sz:Nat):Int) by rw [Nat.mul_comm])))<|au 5 ?_
  refine cd (fun ao=>?_) fun ao=>?_
  ·
   simp only [dT] at ao
   refine au 9 ?_
   first | exact ⟨by rw [ho,hv]; rfl,hm.to⟩ | exact ⟨by rw [ho,hv,LN Ta]; rfl,hm.to⟩
  ·
   simp only [dF] at ao
   refine au 10 ?_
   exact ⟨by rw [ho,hv,LQ Ta]; rfl,hm.to⟩
theorem ye(s a b:Int)(w0:World):C Tryz.prog 218 [.int .i64 s,.agg ⟨[.int .i64 a,.int .i64 b]⟩] w0 fun v w'=>∃ q1 q2,v=.func (.func 253) #[] ⟨[.pointer (some ⟨q1,0,none⟩),.pointer (some ⟨q2,0,none⟩)]⟩∧Mem w0 w' No [(q2,.row 32 [.int .i64 a,.int .i64 b]),(q1,.row 3 [.int .i64 s])]:=by
 refine aH Tryz.func218 fun κ _ Je Jc hm=>?_
 refine au 2 ?_
 refine bT hm fun m1 w hm=>?_
 refine bT hm fun m2 w hm=>?_
 refine au 11 ?_
 exact ⟨_,_,rfl,hm⟩
theorem ui(sz a b:Nat)(u1 u2 yl:Nat)(I:Tf→Nat→World→Prop)(Q:World→Prop)(F0:Tf)(w0:World)(hs:1≤sz)(hsz:sz≤1048576)(nY:a+b≤1048576)
 (cK:∀ F i w,I F i w→w.heap[u1]?=some (ag.row 3 [.int .i64 (sz:Int)]).Jd∧w.heap[u2]?=some (ag.row 32 [.int .i64 (a:Int),.int .i64 (b:Int)]).Jd)
 (jV:∀ F i w w' N,I F i w→Mem w w' No N→I (F++N) i w') (eu:∀ F i w,I F i w→∀ e,e∈F→e.2.real=true→w.heap[e.1]?=some e.2.Jd)
 (hy:∀ F i w,I F i w→Pl.sF sz a b≤i→i<Pl.sF sz a b+Pl.sN sz a b→Yw Tryz.prog yl [.int .i64 (i:Int),.agg ⟨[.int .i64 ((Pl.pO sz a i:Nat):Int),.int .i64 ((Pl.pL sz a b i:Nat):Int)]⟩] w fun v w'=>(v=.bool true∧I F (i+1) w')∨(v=.bool false∧Q w')) (h0:I F0 (Pl.sF sz a b) w0):C Tryz.prog 253 [.func (.yield yl) #[] #[],.pointer (some ⟨u1,0,none⟩),.pointer (some ⟨u2,0,none⟩)] w0 fun v w'=>v=.tuple ⟨[]⟩∧((∃ F,I F (Pl.sF sz a b+Pl.sN sz a b) w')∨Q w'):=by
 have hbd:∀ i,i<Pl.sF sz a b+Pl.sN sz a b→Pl.sF sz a b≤i→i*sz<a+b:=fun i h1 h2=>(Pl.zT hs h2 h1).2.1
 have xX:=Pl.XZ (cnt:=1048576) (sz:=sz) (a:=a) (b:=b) hs (Ki nY (Lu _ hs)) Tb
 obtain ⟨E,Hi⟩:∃ E,Pl.sF sz a b+Pl.sN sz a b=E:=⟨_,rfl⟩
 have hEc:((Pl.sF sz a b:Nat):Int)+((Pl.sN sz a b:Nat):Int)=(E:Int):=by omega
 refine aH Tryz.func253 fun κ _ Je Jc hm=>?_
 refine au 2 ?_
 refine Ja rfl rfl (Jh rfl sc3.h (Qo ((hm.to.same _ (Lb.1 (cK _ _ _ h0).1).1 id).trans (cK _ _ _ h0).1)) rfl)<|Ja rfl rfl (Jm (s:=2) (vs:=[_,_]) rfl ag32.h (Qo ((hm.to.same _ (Lb.1 (cK _ _ _ h0).2).1 id).trans (cK _ _ _ h0).2)) rfl)<|cA rfl rfl rfl (C.as (v:=.agg ⟨[.int .i64 ((Pl.sF sz a b:Nat):Int),.int .i64 ((Pl.sN sz a b:Nat):Int)]⟩) (Dd (sz:Int) (a:Int) (b:Int) _ (by simp only [Pl.aA]; omega) (by simp only [Pl.aA]; omega) (by simp only [Pl.aA]; omega)) (by rw [Pl.tB hs Ta]; rfl)) hm fun w hm=>aT hm fun m1 w hm=>?_
 refine st hm 0 fun w hm=>?_
 refine au 10 ?_
 refine Jg (ι:=List (Nat×ag)×Nat) rfl (ks:=[0,1,2,4]) Tn (fun x=>[(5,.int .i64 x.2)]) (fun x w=>I x.1 x.2 w∧Pl.sF sz a b≤x.2∧x.2≤E∧(m1,ag.row 32 [.int .i64 ((Pl.sF sz a b:Nat):Int),.int .i64 ((Pl.sN sz a b:Nat):Int)])∈x.1) (fun x=>E-x.2) (F0++_,Pl.sF sz a b) (⟨jV _ _ _ _ _ h0 hm,LP _,Ta,Ly _ (Lf.2 rfl)⟩) Tm (fun x w hM=>?_)
 obtain ⟨hI,lv,hk,hF⟩:=hM
 have hm:=Mem.start w
 obtain ⟨hR1,Br⟩:=cK _ _ _ hI
 have hT:=eu _ _ _ hI _ hF rfl
 refine au 4 ?_
 refine Ja rfl rfl (Jm (s:=2) (vs:=[_,_]) rfl ag32.h (Qo ((hm.to.same _ (Lb.1 hT).1 id).trans hT)) rfl)<|cA rfl rfl rfl (C.as (v:=.int .i64 (E:Int)) (QC _ _ _ (by simp only [Pl.aA]; omega)) (by rw [hEc])) hm fun w hm=>au 3 ?_
 refine cd (fun ai=>?_) fun ai=>?_
 ·
  simp only [dT] at ai
  have PW:=hbd x.2 Ta lv
  refine au 6 ?_
  refine Ja rfl rfl (Jm (s:=2) (vs:=[_,_]) rfl ag32.h (Qo ((hm.to.same _ (Lb.1 Br).1 id).trans Br)) rfl)<|au 2 ?_
  refine Ja rfl rfl (Vy rfl rfl (n4 Ta))<|au 2 ?_
  refine cA rfl rfl rfl (C.as (v:=.tuple ⟨[.agg ⟨[.int .i64 ((Pl.pO sz a x.2:Nat):Int),.int .i64 ((Pl.pL sz a b x.2:Nat):Int)]⟩,.bool true]⟩) (Q7 (a:Int) (b:Int) ((x.2*sz:Nat):Int) (sz:Int) _ Ta Ta) (by rw [Pl.GL hs lv Ta]; rfl)) hm fun w hm=>au 3 ?_
  refine aT hm fun m2 w hm=>?_
  refine st hm 0 fun w hm=>?_
  refine au 8 ?_
  have yf:=jV _ _ _ _ _ hI hm
  refine XM rfl rfl rfl rfl (hy _ _ _ yf lv Ta) fun v w hR=>⟨trivial,?_⟩
  obtain ⟨go9,rfl,dO⟩:∃ go,v=.bool go∧((go=true∧I _ (x.2+1) w)∨(go=false∧Q w)):=hR.elim (fun h=>⟨true,h.1,.inl ⟨rfl,h.2⟩⟩) (fun h=>⟨false,h.1,.inr ⟨rfl,h.2⟩⟩)
  refine au 3 ?_
  refine cd (fun ao=>?_) fun ao=>?_
  ·
   have hQ:Q w:=dO.elim (fun h=>by rw [h.1] at ao; cases ao) (fun h=>h.2)
   refine au 5 ?_
   refine dD (fin Je rfl .nil .nil ?_)
   exact ⟨rfl,.inr hQ⟩
  ·
   have Ag:=dO.elim (fun h=>h.2) (fun h=>by rw [h.1] at ao; cases ao)
   refine au 8 ?_
   exact next (x.1++_,x.2+1) Td ⟨Ag,Td,Td,by simp [hF]⟩ ⟨nx x.2,Tm⟩
 ·
  simp only [dF] at ai
  have b8:x.2=E:=by omega
  refine au 4 ?_
  refine eK (fin Jc rfl .nil .nil ?_)
  exact ⟨rfl,.inl ⟨_,by rw [Hi,← b8]; exact jV _ _ _ _ _ hI hm⟩⟩
theorem DA(D:Pl.Dv)(m:Nat)(Z:Tf)(a b:Nat)(w0:World)(hZ:Jr w0 Z)(hz:JV 112 258 5 D m Z)(bM:Pl.eF D (a:Int) (b:Int)=true):C Tryz.prog 177 [.pointer (some ⟨m,0,none⟩),.agg ⟨[.int .i64 (a:Int),.int .i64 (b:Int)]⟩] w0 fun v w'=>∃ q c g d,v=.tuple ⟨[.slice q (Pl.bw D a b).length c,.int .i64 (Pl.Q6 D a b)]⟩∧Acc 5 1 q (Pl.bw D a b).length c ((Pl.bw D a b).flatMap Jk) g d∧Mem w0 w' No [(g,d)]:=by
 have aq:=hz.ok
 have o1:=aq.sz
 have o4:=aq.max
 have o3:=aq.cnt
 have o7:D.sz≤D.cnt*D.sz:=L1 _ o3
 have hv:=Pl.JJ.1 bM
 have nY:a+b≤D.cnt*D.sz:=by omega
 have bL:=Pl.Xh aq
 have hXl:(((Pl.contents D).drop a).take b).length=b:=by rw [Lg,Lm]; omega
 have xX:=Pl.XZ (cnt:=D.cnt) (sz:=D.sz) (a:=a) (b:=b) o1 nY o3
 have ND:Pl.Q6 D a b=if 0<b∧D.dn=true then 18 else 0:=by
  unfold Pl.Q6
  rw [bM]
  simp only [Bool.true_eq_false,if_false]
  by_cases h9:0<b∧D.dn=true
  · rw [LI h9,LI ⟨Ta,h9.2⟩]
  · rw [LH h9,LH (fun e=>h9 ⟨Ta,e.2⟩)]
 have Uy:Pl.Q6 D a b=0→Pl.bw D a b=((Pl.contents D).drop a).take b:=fun h=>by unfold Pl.bw; rw [LI h]; rfl
 have ja7:Pl.Q6 D a b≠0→Pl.bw D a b=[]:=fun h=>by unfold Pl.bw; rw [LH h]
 refine Zt Tryz.func177 rfl rfl rfl fun κ _ Je Jc=>?_
 have hm:=Mem.start w0
 refine au 2 ?_
 refine bT hm fun m1 w hm=>?_
 refine bT hm fun m2 w hm=>?_
 refine aT hm fun m3 w hm=>?_
 refine aT hm fun m4 w hm=>?_
 refine au 7 ?_
 refine cA rfl rfl rfl (C.as (v:=.int .i64 0) (rf D m Z _ (hZ.ext hm.to) hz (a:Int) (b:Int) (by simp only [Pl.aA]; omega) (by simp only [Pl.aA]; omega)) (by rw [LI bM])) hm fun w hm=>au 6 ?_
 refine Ja rfl rfl (JA (c:=false) (XD rfl rfl) Tb)<|au 9 ?_
 refine vN rfl rfl rfl rfl sl22.h z5.h rfl Ta Ta Ta hm trivial fun aI w q6 ah hm hh=>?_
 replace ah:=ah.to (show _=(Pl.half (((Pl.contents D).drop a).take b) b (Pl.rL D.sz a b (Pl.sF D.sz a b))).flatMap Jk by rw [Pl.CD o1]; unfold Pl.half; rw [List.take_zero,L4,Nat.sub_zero]; exact Gs b)
 refine aT hm fun m5 w hm=>?_
 refine st hm 0 fun w hm=>?_
 refine au 4 ?_
 refine dw [0,6,4,2,10] hm fun w hw ar hh hm=>?_
 refine Ja rfl rfl (Jh rfl sc67.h (ar.nd 5 rfl id) rfl)<|Ja rfl rfl (Jm (s:=2) (vs:=[_,_]) rfl ag32.h (ar.nd 4 rfl id) rfl)<|cB rfl rfl rfl (Xt D m Z _ (hZ.ext hm.to) hz) hm hh fun w hm hh=>au 1 ?_
 refine cT rfl rfl rfl (ye (D.sz:Int) (a:Int) (b:Int) _) fun v w hR=>?_
 obtain ⟨q1,q2,rfl,ae⟩:=hR
 replace hm:=hm.Jt ae
 refine au 3 ?_
 refine VJ rfl rfl go253 hm fun a_ fn r0 l w LB jF dV Km Kn hm=>C.mono (ui D.sz a b q1 q2 l (fun F i w=>∃ aF,Mem w0 w No ((l,LB .ready none)::(r0,eh (some []))::(q2,.row 32 [.int .i64 (a:Int),.int .i64 (b:Int)])::(q1,.row 3 [.int .i64 (D.sz:Int)])::(m5,.row 22 [.slice (some ⟨aI,0,none⟩) b b])::(aI,aF)::(m4,.row 35 [.int .i64 0])::(m3,.row 22 [.slice none 0 0])::(m2,.row 32 [.int .i64 (a:Int),.int .i64 (b:Int)])::(m1,.row 67 [.pointer (some ⟨m,0,none⟩)])::F)∧Acc 5 1 (some ⟨aI,0,none⟩) b b ((Pl.half (((Pl.contents D).drop a).take b) b (Pl.rL D.sz a b i)).flatMap Jk) aI aF∧(Pl.sF D.sz a b<i→D.dn=false)) (fun w=>∃ aF F,Mem w0 w No ((l,LB .done (some .ret))::(r0,eh (some []))::(q2,.row 32 [.int .i64 (a:Int),.int .i64 (b:Int)])::(q1,.row 3 [.int .i64 (D.sz:Int)])::(m5,.row 22 [.slice (some ⟨aI,0,none⟩) b b])::(aI,aF)::(m4,.row 35 [.int .i64 18])::(m3,.row 22 [.slice none 0 0])::(m2,.row 32 [.int .i64 (a:Int),.int .i64 (b:Int)])::(m1,.row 67 [.pointer (some ⟨m,0,none⟩)])::F)∧D.dn=true∧0<b) [] _ o1 Ta Ta
  (by rintro F i w ⟨aF,hm,-⟩; exact ⟨hm.get (k:=3) rfl,hm.get (k:=2) rfl⟩)
  (by rintro F i w w' N ⟨aF,hm,ha,hd⟩ hc; exact ⟨aF,Mem.oX (N1:=[]) hm hc,ha,hd⟩)
  (by rintro F i w ⟨aF,hm,-⟩ e he hr; exact hm.own e (by simp [he]) hr)
  (fun F i w hI lv lx=>?_) ⟨_,hm,ah,fun h=>absurd h (Nat.lt_irrefl _)⟩) (fun v w hR=>?_)
 ·
  subst jF
  obtain ⟨aF,hm,ah,eB⟩:=hI
  obtain ⟨p1,p2,p3,p4,p5⟩:=Pl.gM (b:=b) o1 lv lx
  obtain ⟨n1,n2⟩:=Pl.xV (b:=b) o1 lv lx
  have Mm:=(Pl.zT o1 lv lx).1
  have I8:=Pl.V9 (sz:=D.sz) (show i<D.cnt by omega)
  have hii:i≤i*D.sz:=Lu _ o1
  refine Yw.of dV (hm.get (k:=0) rfl) rfl rfl<|au 6 ?_
  refine aT hm fun m6 w hm=>?_
  refine st hm 0 fun w hm=>?_
  refine au 1 ?_
  refine Xf hm 1 rfl fun w hm=>XC rfl<|Qb rfl<|JT (.pure 0 (.pure 1 (.act 2 (.pure 3 (.pure 4 (.pure 5 (.pure 6 (.pure 7 .done)))))))) Te<|Ja rfl rfl (Jh rfl sc67.h (hm.nt 10 rfl) rfl)<|Ja rfl rfl (Jx rfl)<|cT rfl rfl rfl (Dj D m Z _ (hZ.ext hm.to) hz (i:Int)) fun v w hR=>?_
  obtain ⟨p_v,yg,g_v,Uz,rfl,fI,ae⟩:=hR
  have ja8:Uz.real=true→_:=fun hr=>(ae.fresh _ Lo hr).resolve_left id
  replace hm:=hm.Jt ae
  refine au 14 ?_
  refine cd (fun ao=>?_) fun ao=>?_
  ·
   simp only [dT] at ao
   have UA:D.dn=true:=by
    unfold Pl.JI at ao
    by_cases h9:D.dn=true
    · exact h9
    · rw [LH h9,LH Ta] at ao; exact absurd rfl ao
   have ja9:Pl.JI D (i:Int)=18:=by unfold Pl.JI; rw [LI UA]
   refine au 3 ?_
   refine st hm 9 fun w hm=>?_
   refine st hm 8 fun w hm=>?_
   rw [ja9] at hm
   refine au 5 ?_
   exact BN hm 2 rfl fun w hm=>.inr ⟨rfl,aF,_,(hm.Jp [2,3,4,5,6,7,8,9,10,11] 12 rfl),UA,Mm⟩
  ·
   simp only [dF,Decidable.not_not] at ao
   obtain ⟨jba,_,_⟩:=xJ ao
   rw [ao,LI rfl] at fI ⊢
   have NF:=Pl.qM aq (i:=i) Ta
   have NG:=fI.le
   refine au 2 ?_
   refine dw [0,3,6,9,12,15,18,21,24,27,30,33,36,39,42,46,48,51,54,2,58] hm fun w hw ar hh hm=>?_
   refine Ja rfl rfl (Jh rfl sc22.h (ar.nd 6 rfl id) rfl)<|Ja rfl rfl (Jv rfl fo32_0.h)<|Ja rfl rfl (Jh rfl sc3.h (ar.nd 1 rfl id) rfl)<|Ja rfl rfl (Jv rfl fo32_0.h)<|Ja rfl rfl (Jh rfl sc3.h (ar.nd 10 rfl id) rfl)<|Ja rfl rfl (QR rfl rfl (wg _ Ta Ta))<|Ja rfl rfl (JE (ln:=(Pl.pO D.sz a i-a)) (hn:=b) rfl sl22.h ⟨_,rfl⟩ rfl Ta Ta (fun _ ad e=>by cases e; rfl))<|au 2 ?_
   refine Ja rfl rfl (cy (JE (ln:=0) (hn:=(Pl.pL D.sz a b i)) rfl sl22.h rfl ⟨_,rfl⟩ Ta Ta (fun h ad e=>XX (fun _ ad e=>by cases e; rfl) Ta e)) (show _=Value.slice (bP (some ⟨aI,0,none⟩) b (Pl.pO D.sz a i-a) 1) (Pl.pL D.sz a b i) (b-(Pl.pO D.sz a i-a)) by rw [VR (fun h ad e=>XX (fun _ ad e=>by cases e; rfl) Ta e)]; rfl))<|Ja rfl rfl (Jx rfl)<|Ja rfl rfl (Jv rfl fo32_0.h)<|Ja rfl rfl (Jh rfl sc3.h (ar.nd 1 rfl id) rfl)<|Ja rfl rfl (Jx rfl)<|Ja rfl rfl (Jh rfl sc67.h (ar.nd 11 rfl id) rfl)<|cB rfl rfl rfl (Xt D m Z _ (hZ.ext hm.to) hz) hm hh fun w hm hh=>Ja rfl rfl (Vy rfl rfl (n4 Ta))<|Ja rfl rfl (QR rfl rfl (wg _ Ta Ta))<|Ja rfl rfl (JE (ln:=(Pl.pO D.sz a i-i*D.sz)) (hn:=(Pl.ej D (i:Int)).length) rfl sl22.h ⟨_,rfl⟩ rfl Ta Ta (fun h=>fI.spot Ta))<|au 1 ?_
   refine kh (o:=Pl.pO D.sz a i-a) (src:=((((Pl.ej D (i:Int)).drop (Pl.pO D.sz a i-i*D.sz)).take (Pl.pL D.sz a b i)).flatMap Jk)) rfl rfl rfl rfl rfl sl22.h Ta ((fI.rd hm 0 rfl).sub NG) (by rw [J0,Lg,Lm]; omega) (Zl _) ah hm 7 rfl fun aF w ah hm=>?_
   rw [Y0 (by rw [Pl.CF hXl (by unfold Pl.rL; omega),Lg,Lm]; omega),show Pl.ej D (i:Int)=((Pl.contents D).drop (i*D.sz)).take D.sz from rfl,Pl.zU o1 (by rw [bL]; exact nY) lv lx] at ah
   refine au 2 ?_
   refine gz hm 2 rfl fun w hm=>.inl ⟨rfl,aF,(hm.Jp [2,3,4,5,6,7,8,9,10,11] 12 rfl),?_,fun _=>jba⟩
   exact ah
 ·
  subst jF
  obtain ⟨-,⟨F,aF,hm,ah,eB⟩ | ⟨aF,F,hm,eB,Mm⟩⟩:=hR
  ·
   rw [Pl.GM o1] at ah
   have ai:Pl.Q6 D a b=0:=by rw [ND,LH]; rintro ⟨h1,h2⟩; have:=eB (by unfold Pl.sN; rw [LH Ta]; omega); rw [h2] at this; cases this
   have UB:=Uy ai
   replace ah:=ah.to (show _=(Pl.bw D a b).flatMap Jk by rw [UB]; unfold Pl.half; rw [Nat.sub_self,List.replicate_zero,Lq,LZ (by rw [hXl]; exact LP _)])
   have Cy:(Pl.bw D a b).length=b:=by rw [UB,hXl]
   refine ⟨.ready,none,nofun,hm.get (k:=0) rfl,fun w4 oh=>?_⟩
   replace hm:=Xw hm oh
   refine au 5 ?_
   refine st hm 6 fun w hm=>?_
   refine st hm 5 fun w hm=>?_
   refine au 3 ?_
   refine dD (ly Je rfl hm 0 rfl .more fun w hm=>⟨(.cell rfl (JN sc22.h (hm.get (k:=6) rfl) rfl) (.cell rfl (JN sc35.h (hm.get (k:=5) rfl) rfl) .nil)),?_⟩)
   exact ⟨_,b,aI,aF,by rw [Cy,ai],by rw [Cy]; exact ah,(hm.pick [4] rfl)⟩
  ·
   have ao:Pl.Q6 D a b=18:=by rw [ND,LI ⟨Mm,eB⟩]
   have UB:=ja7 (by rw [ao]; decide)
   refine ⟨.done,some .ret,nofun,hm.get (k:=0) rfl,fun w4 oh=>?_⟩
   replace hm:=Xw hm oh
   refine au 3 ?_
   refine dD (ly Je rfl hm 0 rfl .more fun w hm=>⟨(.cell rfl (JN sc22.h (hm.get (k:=6) rfl) rfl) (.cell rfl (JN sc35.h (hm.get (k:=5) rfl) rfl) .nil)),?_⟩)
   exact ⟨none,0,0,.gap,by rw [UB,ao]; rfl,by rw [UB]; exact .nil _ _ _ _,(hm.JP.pick [0] rfl)⟩
theorem Hj(D:Pl.Dv)(m:Nat)(Z:Tf)(w0:World)(hZ:Jr w0 Z)(hz:JV 112 258 5 D m Z)(a b:Int)(ha:Pl.aA a)(hb:Pl.aA b)(bM:Pl.eF D a b=false):C Tryz.prog 177 [.pointer (some ⟨m,0,none⟩),.agg ⟨[.int .i64 a,.int .i64 b]⟩] w0 fun v w'=>∃ q c g d,v=.tuple ⟨[.slice q 0 c,.int .i64 2]⟩∧Acc 5 1 q 0 c [] g d∧Mem w0 w' No [(g,d)]:=by
 refine Zt Tryz.func177 rfl rfl rfl fun κ _ Je Jc=>?_
 have hm:=Mem.start w0
 refine au 2 ?_
 refine bT hm fun m1 w hm=>?_
 refine bT hm fun m2 w hm=>?_
 refine aT hm fun m3 w hm=>?_
 refine aT hm fun m4 w hm=>?_
 refine au 7 ?_
 refine cA rfl rfl rfl (C.as (v:=.int .i64 2) (rf D m Z _ (hZ.ext hm.to) hz a b ha hb) (by rw [bM]; rfl)) hm fun w hm=>au 6 ?_
 refine Ja rfl rfl (JA (c:=true) (XD rfl rfl) Tb)<|au 6 ?_
 refine st hm 1 fun w hm=>?_
 refine st hm 0 fun w hm=>?_
 refine au 4 ?_
 refine dD (RJ Je rfl (.cell rfl (JN sc22.h (hm.get (k:=1) rfl) rfl) (.cell rfl (JN sc35.h (hm.get (k:=0) rfl) rfl) .nil)) .more ?_)
 exact ⟨none,0,0,.gap,rfl,.nil _ _ _ _,(hm.JP.pick [0] rfl)⟩
theorem Hk(D:Pl.Dv)(m:Nat)(Z:Tf)(w0:World)(hZ:Jr w0 Z)(hz:JV 112 258 5 D m Z)(a b:Int)(ha:Pl.aA a)(hb:Pl.aA b):C Tryz.prog 177 [.pointer (some ⟨m,0,none⟩),.agg ⟨[.int .i64 a,.int .i64 b]⟩] w0 fun v w'=>∃ q c g d,v=.tuple ⟨[.slice q (Pl.bw D a b).length c,.int .i64 (Pl.Q6 D a b)]⟩∧Acc 5 1 q (Pl.bw D a b).length c ((Pl.bw D a b).flatMap Jk) g d∧Mem w0 w' No [(g,d)]:=by
 cases bM:Pl.eF D a b with
 | true=>
  have hv:=Pl.JJ.1 bM
  obtain ⟨x,rfl⟩:∃ x:Nat,a=x:=⟨a.toNat,Ta⟩
  obtain ⟨y,rfl⟩:∃ y:Nat,b=y:=⟨b.toNat,Ta⟩
  exact DA D m Z x y w0 hZ hz bM
 | false=>
  have hc:Pl.Q6 D a b=2:=by unfold Pl.Q6; rw [bM]; rfl
  have hB:Pl.bw D a b=[]:=by unfold Pl.bw; rw [hc]; rfl
  rw [hB,hc]
  exact Hj D m Z w0 hZ hz a b ha hb bM
theorem gV(D:Pl.Dv)(m:Nat)(Z:Tf)(a:Nat)(q:Tg)(cq:Nat)(ps:List SB)(BB:Th)(w0:World)(hZ:Jr w0 Z)(hz:JV 112 258 5 D m Z)(bM:Pl.eF D (a:Int) (BB.length:Int)=true)(hq:Rd w0 q (ps.flatMap encS))(iC:∀ s∈ps,Rd w0 s.p (s.bs.flatMap Jk))(hl:ps.length≤4611686018427387903)(kq:ps.flatMap (·.bs)=BB)(hb:BB.length≤140737488355328)(bL:D.ca.length+D.cnt≤1000000000):C Tryz.prog 264 [.pointer (some ⟨m,0,none⟩),.int .i64 (a:Int),.slice q ps.length cq] w0 fun v w'=>v=.int .i64 (Pl.cg a BB (Pl.sN D.sz a BB.length) (Pl.sF D.sz a BB.length) D).1∧∃ Z',JV 112 258 5 (Pl.cg a BB (Pl.sN D.sz a BB.length) (Pl.sF D.sz a BB.length) D).2 m Z'∧Mem w0 w' (Mn (ak Z)) Z':=by
 have aq:=hz.ok
 have o1:=aq.sz
 have o4:=aq.max
 have o3:=aq.cnt
 have o7:D.sz≤D.cnt*D.sz:=L1 _ o3
 have hv:=Pl.JJ.1 bM
 have nY:a+BB.length≤D.cnt*D.sz:=by omega
 have xX:=Pl.XZ (cnt:=D.cnt) (sz:=D.sz) (a:=a) (b:=BB.length) o1 nY o3
 have ha:Pl.aA (a:Int):=by simp only [Pl.aA]; omega
 refine Zt Tryz.func264 rfl rfl rfl fun κ _ Je Jc=>?_
 have hm:=Mem.start w0
 refine au 2 ?_
 refine bT hm fun m1 w hm=>?_
 refine bT hm fun m2 w hm=>?_
 refine aT hm fun m3 w hm=>?_
 refine au 5 ?_
 refine cT rfl rfl rfl (Yc q cq ps _ (hq.Jj hm.to) (fun s hs=>(iC s hs).Jj hm.to) hl (by rw [kq]; exact hb)) fun v w hR=>?_
 obtain ⟨aK,dE,aj,aI,aF,rfl,ah,ae⟩:=hR
 have Kq:=ah.J0
 replace hm:=hm.Jt ae
 rw [kq] at ah Kq
 refine aT hm fun m4 w hm=>?_
 refine st hm 0 fun w hm=>?_
 refine au 7 ?_
 refine Ja rfl rfl (cy (Qe (cs:=[_,_]) z32.h ft32.h rfl rfl rfl rfl rfl) (show _=Value.agg ⟨[.int .i64 (a:Int),.int .i64 (BB.length:Int)]⟩ by rw [Kq]))<|aT hm fun m5 w hm=>?_
 refine st hm 0 fun w hm=>?_
 refine Qc<|QV<|Qb rfl<|Qb rfl<|JT (.pure 0 (.pure 1 (.act 2 (.pure 3 .done)))) Te<|Ja rfl rfl (Jh rfl sc67.h (hm.nt 5 rfl) rfl)<|Ja rfl rfl (Jm (s:=2) (vs:=[_,_]) rfl ag32.h (hm.nt 0 rfl) rfl)<|cA rfl rfl rfl (C.as (v:=.int .i64 0) (rf D m Z _ (hZ.ext hm.to) hz a (BB.length:Int) ha (by simp only [Pl.aA]; omega)) (by rw [LI bM])) hm fun w hm=>au 6 ?_
 refine Ja rfl rfl (JA (c:=false) (XD rfl rfl) Tb)<|au 7 ?_
 refine dw [0,6,4,2,10] hm fun w hw ar hh hm=>?_
 refine Ja rfl rfl (Jh rfl sc67.h (ar.nd 5 rfl id) rfl)<|Ja rfl rfl (Jm (s:=2) (vs:=[_,_]) rfl ag32.h (ar.nd 0 rfl id) rfl)<|cB rfl rfl rfl (Xt D m Z _ (hZ.ext hm.to) hz) hm hh fun w hm hh=>au 1 ?_
 refine cT rfl rfl rfl (ye (D.sz:Int) (a:Int) (BB.length:Int) _) fun v w hR=>?_
 obtain ⟨q1,q2,rfl,ae⟩:=hR
 replace hm:=hm.Jt ae
 refine au 3 ?_
 replace hm:=hm.Zp hZ
 refine VJ rfl rfl go253 hm fun a_ fn r0 l w LB jF dV Km Kn hm=>C.mono (ui D.sz a BB.length q1 q2 l (fun F i w=>∃ D9 Z9,Mem w0 w (Mn (ak Z)) ((l,LB .ready none)::(r0,eh (some []))::(q2,.row 32 [.int .i64 (a:Int),.int .i64 (BB.length:Int)])::(q1,.row 3 [.int .i64 (D.sz:Int)])::(m5,.row 32 [.int .i64 (a:Int),.int .i64 (BB.length:Int)])::(m4,.row 22 [.slice aK dE aj])::(aI,aF)::(m3,.row 35 [.int .i64 0])::(m2,.row 3 [.int .i64 (a:Int)])::(m1,.row 67 [.pointer (some ⟨m,0,none⟩)])::(Z9++F))∧JV 112 258 5 D9 m Z9∧(Pl.cg a BB (Pl.sN D.sz a BB.length) (Pl.sF D.sz a BB.length) D)=Pl.cg a BB ((Pl.sF D.sz a BB.length+Pl.sN D.sz a BB.length)-i) i D9∧D9.sz=D.sz∧D9.cnt=D.cnt∧D9.ca.length+((Pl.sF D.sz a BB.length+Pl.sN D.sz a BB.length)-i)≤1000000000) (fun w=>∃ D9 Z9 F c9,Mem w0 w (Mn (ak Z)) ((l,LB .done (some .ret))::(r0,eh (some []))::(q2,.row 32 [.int .i64 (a:Int),.int .i64 (BB.length:Int)])::(q1,.row 3 [.int .i64 (D.sz:Int)])::(m5,.row 32 [.int .i64 (a:Int),.int .i64 (BB.length:Int)])::(m4,.row 22 [.slice aK dE aj])::(aI,aF)::(m3,.row 35 [.int .i64 c9])::(m2,.row 3 [.int .i64 (a:Int)])::(m1,.row 67 [.pointer (some ⟨m,0,none⟩)])::(Z9++F))∧JV 112 258 5 D9 m Z9∧(Pl.cg a BB (Pl.sN D.sz a BB.length) (Pl.sF D.sz a BB.length) D)=(c9,D9)) [] _ o1 Ta Ta
  (by rintro F i w ⟨D9,Z9,hm,-⟩; exact ⟨hm.get (k:=3) rfl,hm.get (k:=2) rfl⟩)
  (by rintro F i w w' N ⟨D9,Z9,hm,eC,NH,h1,h2,h3⟩ hc; exact ⟨D9,Z9,Mem.MP (A:=[_,_,_,_,_,_,_,_,_,_]) hm hc,eC,NH,h1,h2,h3⟩)
  (by rintro F i w ⟨D9,Z9,hm,-⟩ e he hr; exact hm.own e (by simp [he]) hr)
  (fun F i w hI lv lx=>?_) ⟨D,Z,by rw [Lq]; exact hm,hz,by rw [Kk],rfl,rfl,Ta⟩) (fun v w hR=>?_)
 ·
  subst jF
  obtain ⟨D9,Z9,hm,eC,NH,hsz,hct,C0⟩:=hI
  obtain ⟨p1,p2,p3,p4,p5⟩:=Pl.gM (b:=BB.length) o1 lv lx
  have I8:=Pl.V9 (sz:=D.sz) (show i<D.cnt by omega)
  have hii:i≤i*D.sz:=Lu _ o1
  refine Yw.of dV (hm.get (k:=0) rfl) rfl rfl<|au 6 ?_
  refine aT hm fun m6 w hm=>?_
  refine st hm 0 fun w hm=>?_
  refine au 1 ?_
  refine Xf hm 1 rfl fun w hm=>XC rfl<|Qb rfl<|JT (.pure 0 (.pure 1 (.act 2 (.pure 3 (.pure 4 (.pure 5 (.pure 6 (.pure 7 .done)))))))) Te<|Ja rfl rfl (Jh rfl sc67.h (hm.nt 10 rfl) rfl)<|Ja rfl rfl (Jx rfl)<|cT rfl rfl rfl (Dj D9 m Z9 _ (Jr.bX (A:=[_,_,_,_,_,_,_,_,_,_,_]) hm.Jz) eC (i:Int)) fun v w hR=>?_
  obtain ⟨p_v,yg,g_v,Uz,rfl,fI,ae⟩:=hR
  have ja8:Uz.real=true→_:=fun hr=>(ae.fresh _ Lo hr).resolve_left id
  replace hm:=hm.Jt ae
  refine au 14 ?_
  refine cd (fun ao=>?_) fun ao=>?_
  ·
   simp only [dT] at ao
   have Ah:(Pl.cg a BB (Pl.sN D.sz a BB.length) (Pl.sF D.sz a BB.length) D)=(Pl.JI D9 (i:Int),D9):=by rw [NH,show (Pl.sF D.sz a BB.length+Pl.sN D.sz a BB.length)-i=((Pl.sF D.sz a BB.length+Pl.sN D.sz a BB.length)-(i+1))+1 by omega]; unfold Pl.cg; rw [LI ao]
   refine au 3 ?_
   refine st hm 9 fun w hm=>?_
   refine au 5 ?_
   refine BN hm 2 rfl fun w hm=>?_
   first | exact .inr ⟨rfl,_,Z2,F,_,(hm.Jp [2,3,4,5,6,7,8,9,10,11] 12 rfl),da,Ah⟩ | exact .inr ⟨rfl,_,Z9,F,_,(hm.Jp [2,3,4,5,6,7,8,9,10,11] 12 rfl),eC,Ah⟩
  ·
   simp only [dF,Decidable.not_not] at ao
   have NF:(Pl.ej D9 (i:Int)).length=D.sz:=(Pl.qM eC.ok (i:=i) Ta).trans hsz
   rw [ao,LI rfl,NF] at fI ⊢
   have NG:=fI.le
   have UC:=ah.le
   rw [Kq] at ah UC
   refine au 3 ?_
   refine dw [0,3,6,9,12,27,30,33,36,39,42,45,48,51,16,18,21,24,2,55] hm fun w hw ar hh hm=>?_
   refine Ja rfl rfl (Jx rfl)<|Ja rfl rfl (Jv rfl fo32_0.h)<|Ja rfl rfl (Jh rfl sc3.h (ar.nd 1 rfl id) rfl)<|Ja rfl rfl (Jx rfl)<|Ja rfl rfl (Jh rfl sc67.h (ar.nd 11 rfl id) rfl)<|Ja rfl rfl (Jh rfl sc22.h (ar.nd 7 rfl id) rfl)<|Ja rfl rfl (Jv rfl fo32_0.h)<|Ja rfl rfl (Jh rfl sc3.h (ar.nd 1 rfl id) rfl)<|Ja rfl rfl (Jh rfl sc3.h (ar.nd 10 rfl id) rfl)<|Ja rfl rfl (QR rfl rfl (wg _ Ta Ta))<|Ja rfl rfl (JE (ln:=(Pl.pO D.sz a i-a)) (hn:=dE) rfl sl22.h ⟨_,rfl⟩ rfl Ta Ta (fun h=>ah.spot Ta))<|au 2 ?_
   refine Ja rfl rfl (cy (JE (ln:=0) (hn:=(Pl.pL D.sz a BB.length i)) rfl sl22.h rfl ⟨_,rfl⟩ Ta Ta (fun h ad e=>XX (fun h2=>ah.spot Ta) Ta e)) (show _=Value.slice (bP aK aj (Pl.pO D.sz a i-a) 1) (Pl.pL D.sz a BB.length i) (aj-(Pl.pO D.sz a i-a)) by rw [CM ah.spot]; rfl))<|cB rfl rfl rfl (C.as (v:=.int .i64 (D.sz:Int)) (Xt D9 m Z9 _ (Jr.bX (A:=[_,_,_,_,_,_,_,_,_,_,_,_]) hm.Jz) eC) (by rw [hsz])) hm hh fun w hm hh=>Ja rfl rfl (Vy rfl rfl (n4 Ta))<|Ja rfl rfl (QR rfl rfl (wg _ Ta Ta))<|Ja rfl rfl (JE (ln:=(Pl.pO D.sz a i-i*D.sz)) (hn:=D.sz) rfl sl22.h ⟨_,rfl⟩ rfl Ta Ta (fun h=>fI.spot Ta))<|au 1 ?_
   refine kh (o:=Pl.pO D.sz a i-i*D.sz) (src:=(((BB.drop (Pl.pO D.sz a i-a)).take (Pl.pL D.sz a BB.length i)).flatMap Jk)) rfl rfl rfl rfl rfl sl22.h Ta ((ah.rd hm 8 rfl).sub UC) (by rw [J0,Lg,Lm]; omega) (Zl _) fI hm 0 rfl fun Uz w fI hm=>?_
   rw [Y0 (by rw [NF,Lg,Lm]; omega),Pl.CH o1 NF lv lx] at fI
   refine Qc<|QV<|Qb rfl<|JT (.pure 0 (.pure 1 (.pure 2 (.act 3 (.pure 4 .done))))) Te<|Ja rfl rfl (Jh rfl sc67.h (hm.nt 11 rfl) rfl)<|Ja rfl rfl (Jx rfl)<|Ja rfl rfl (Jx rfl)<|cT rfl rfl rfl (C.eqv (G' D9 m Z9 _ (Jr.bX (A:=[_,_,_,_,_,_,_,_,_,_,_,_]) hm.Jz) eC p_v yg (Pl.VK D.sz (Pl.ej D9 (i:Int)) a BB i) (i:Int) (fI.rd hm 0 rfl) (fun h ad e h9=>hm.jaz (A:=[_,_,_,_,_,_,_,_,_,_,_,_]) fI 0 rfl h ad e (xK h9)) (by rw [Pl.Xp]; exact NG) Ta) (by rw [Pl.Xp]; rfl)) fun v w hR=>?_
   obtain ⟨rfl,Z2,da,ae⟩:=hR
   replace hm:=Mem.mq (A:=[_,_,_,_,_,_,_,_,_,_,_,_]) hm ae
   refine au 9 ?_
   refine cd (fun aD=>?_) fun aD=>?_
   ·
    simp only [dT] at aD
    have Ah:(Pl.cg a BB (Pl.sN D.sz a BB.length) (Pl.sF D.sz a BB.length) D)=(Pl.Yt D9 (i:Int) (Pl.VK D.sz (Pl.ej D9 (i:Int)) a BB i),Pl.lY D9 (i:Int) (Pl.VK D.sz (Pl.ej D9 (i:Int)) a BB i)):=by rw [NH,show (Pl.sF D.sz a BB.length+Pl.sN D.sz a BB.length)-i=((Pl.sF D.sz a BB.length+Pl.sN D.sz a BB.length)-(i+1))+1 by omega]; unfold Pl.cg; rw [LH Ta,hsz,LI aD]
    refine au 3 ?_
    refine st hm 9 fun w hm=>?_
    refine au 4 ?_
    refine BN hm 2 rfl fun w hm=>?_
    first | exact .inr ⟨rfl,_,Z2,F,_,(hm.Jp [2,3,4,5,6,7,8,9,10,11] 12 rfl),da,Ah⟩ | exact .inr ⟨rfl,_,Z9,F,_,(hm.Jp [2,3,4,5,6,7,8,9,10,11] 12 rfl),eC,Ah⟩
   ·
    simp only [dF,Decidable.not_not] at aD
    have Ah:(Pl.cg a BB (Pl.sN D.sz a BB.length) (Pl.sF D.sz a BB.length) D)=Pl.cg a BB ((Pl.sF D.sz a BB.length+Pl.sN D.sz a BB.length)-(i+1)) (i+1) (Pl.lY D9 (i:Int) (Pl.VK D.sz (Pl.ej D9 (i:Int)) a BB i)):=by rw [NH,show (Pl.sF D.sz a BB.length+Pl.sN D.sz a BB.length)-i=((Pl.sF D.sz a BB.length+Pl.sN D.sz a BB.length)-(i+1))+1 by omega]; conv=>lhs; unfold Pl.cg; rw [LH Ta,hsz,LH Ta]
    have yh:=Pl.mH D9 (i:Int) (Pl.VK D.sz (Pl.ej D9 (i:Int)) a BB i)
    refine au 2 ?_
    exact gz hm 2 rfl fun w hm=>.inl ⟨rfl,_,Z2,(hm.Jp [2,3,4,5,6,7,8,9,10,11] 12 rfl),da,Ah,yh.1.trans hsz,yh.2.1.trans hct,Ta⟩
 ·
  subst jF
  obtain ⟨-,⟨F,D9,Z9,hm,eC,NH,hsz,hct,C0⟩ | ⟨D9,Z9,F,c9,hm,eC,Ah⟩⟩:=hR
  ·
   have Ah:(Pl.cg a BB (Pl.sN D.sz a BB.length) (Pl.sF D.sz a BB.length) D)=(0,D9):=by rw [NH,Nat.sub_self]; rfl
   refine ⟨.ready,none,nofun,hm.get (k:=0) rfl,fun w4 oh=>?_⟩
   replace hm:=Xw hm oh
   refine au 4 ?_
   refine st hm 6 fun w hm=>?_
   refine au 3 ?_
   refine dD (ly Je rfl hm 0 rfl .one fun w hm=>⟨(.cell rfl (JN sc35.h (hm.get (k:=6) rfl) rfl) .nil),?_⟩)
   exact ⟨by rw [Ah],Z9,by rw [Ah]; exact eC,Mem.left (L:=Z9) (hm.Jp [] 9 rfl)⟩
  ·
   refine ⟨.done,some .ret,nofun,hm.get (k:=0) rfl,fun w4 oh=>?_⟩
   replace hm:=Xw hm oh
   refine au 3 ?_
   refine dD (ly Je rfl hm 0 rfl .one fun w hm=>⟨(.cell rfl (JN sc35.h (hm.get (k:=6) rfl) rfl) .nil),?_⟩)
   exact ⟨by rw [Ah],Z9,by rw [Ah]; exact eC,Mem.left (L:=Z9) (hm.Jp [] 9 rfl)⟩
theorem Pl.QG{α:Type}{l:List α}{i:Nat}{x:α}(h:l[i]?=some x):l.take (i+1)=l.take i++[x]:=by rw [LC,h]; rfl
end Go.Proofs.YtaehgpeenaomcaaGreat
