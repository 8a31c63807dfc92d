/- Part 7 of the proof of TopShapes: Sha Chn Pln PlnN Fio. Conditions: the hypotheses of each theorem. -/
import Derived.Test.YtaehgpeenaomcaaGreatY05
import Derived.Test.YtaehgpeenaomcaaGreatChecked
set_option maxRecDepth 10000
set_option maxHeartbeats 4000000
set_option linter.unusedVariables false
set_option linter.unusedSimpArgs false
namespace Go.Proofs.YtaehgpeenaomcaaGreat
open Go Go.Cx
theorem XP(x:UInt32)(j:Nat)(w0:World)(h1:1≤j)(h2:j<32):C Tryz.prog 116 [.int .u32 ((x).toNat:Int),.int .i64 (-(j:Int))] w0 fun v w'=>v=.int .u32 ((Pl.rotr x (UInt32.ofNat j)).toNat:Int)∧Ext No w0 w':=by
 refine C_o Tryz.func116 fun κ _ Je Jc hm=>?_
 refine au 2 ?_
 refine Ja rfl rfl (J4 (cW 0 rfl)) ?_
 refine au 5 ?_
 refine Ja rfl rfl (JX rfl is3 it151 rfl) ?_
 refine Ja rfl rfl (VA rfl rfl (rot_k h1 h2)) ?_
 refine au 7 ?_
 refine Ja rfl rfl (y_shl rfl rfl (by omega) (w_shl (UInt32.ofNat (32-j)) (by rw [oN (by omega)]) (by rw [oN (by omega)]; omega))) ?_
 refine au 2 ?_
 refine Ja rfl rfl (QR rfl rfl (u_sub (a:=32) (by omega) (by decide))) ?_
 refine Ja rfl rfl (V1 rfl rfl (by omega) (Yz (UInt32.ofNat j) (by rw [oN h2]; omega) (by rw [oN h2]; omega))) ?_
 refine Ja rfl rfl (y_or_ rfl rfl w_or) ?_
 refine au 5 ?_
 exact ⟨by rw [← rot_eq x h1 h2],hm.to⟩
theorem h_keys(w0:World):C Tryz.prog 115 [] w0 fun v w'=>v=.agg ⟨Pl.shK.flatMap Zn⟩∧Ext No w0 w':=by
 refine C_o Tryz.func115 fun κ _ Je Jc hm=>?_
 refine au 2 ?_
 refine aT hm fun m1 w hm=>?_
 refine au 4 ?_
 refine Ja rfl rfl (Qe (cs:=[_,_,_,_,_,_,_,_,_,_,_,_,_,_,_,_,_,_,_,_,_,_,_,_,_,_,_,_,_,_,_,_,_,_,_,_,_,_,_,_,_,_,_,_,_,_,_,_,_,_,_,_,_,_,_,_,_,_,_,_,_,_,_,_]) z187.h ft187.h rfl rfl rfl rfl rfl) ?_
 refine st hm 0 fun w hm=>?_
 refine au 3 ?_
 refine toR (fin Je rfl (.cell rfl (Ju (vs:=[_,_,_,_,_,_,_,_,_,_,_,_,_,_,_,_,_,_,_,_,_,_,_,_,_,_,_,_,_,_,_,_,_,_,_,_,_,_,_,_,_,_,_,_,_,_,_,_,_,_,_,_,_,_,_,_,_,_,_,_,_,_,_,_]) ag187.h (hm.get (k:=0) rfl) rfl) .nil) .one ?_)
 exact ⟨rfl,hm.to⟩
theorem h_block(TT m:Nat)(s:Pl.S8)(rv:Value)(n:Int)(p:Option Addr)(cap:Nat)(bs:List UInt8)(w0:World)(hP:w0.heap[m]?=some (Blk.row TT (stV s rv n)).Jd)(hx:Rd w0 p (bs.flatMap Jk))(hap:bs.flatMap Jk≠[]→∀ ad,p=some ad→¬ (ad.block=m))(hl:bs.length=64):C Tryz.prog 89 [.pointer (some ⟨m,0,none⟩),.slice p 64 cap] w0 fun v w'=>v=.tuple ⟨[]⟩∧Mem w0 w' (fun k=>k=m) [(m,.row TT (stV (Pl.shBlock s bs) rv n))]:=by
 obtain ⟨x0_,hx0_⟩:∃ y_,bs[0]?=some y_:=⟨_,La (by omega)⟩
 obtain ⟨b2,o2,hp4⟩:=hx.atI JG (by decide) hx0_
 refine Vk Tryz.func89 rfl rfl rfl fun κ _ Je Jc=>?_
 have hm:=Mem.Vq hP
 refine au 2 ?_
 refine aT hm fun m1 w hm=>?_
 refine au 9 ?_
 refine Jg (ι:=Nat) rfl (ks:=[0,1,4]) (.cons rfl (.cons rfl (.cons rfl .nil))) (fun x=>[(21,.int .i64 x)]) (fun x w=>Mem w0 w (fun k=>k=m) [(m1,.row 186 ((Pl.V8 bs x++List.replicate (16-x) 0).flatMap Zn)),(m,(.row TT (stV s rv n)))]∧x≤16) (fun x=>16-x) 0 (⟨hm,LL _⟩) ⟨rfl,trivial⟩ (fun x w hM=>?_)
 obtain ⟨hm,hk⟩:=hM
 refine au 6 ?_
 refine cd (fun hc0=>?_) fun hc0=>?_
 ·
  simp only [dT] at hc0
  obtain ⟨c0,hi0⟩:∃ y_,bs[4*x+0]?=some y_:=⟨_,La (by omega)⟩
  obtain ⟨c1,hi1⟩:∃ y_,bs[4*x+1]?=some y_:=⟨_,La (by omega)⟩
  obtain ⟨c2,hi2⟩:∃ y_,bs[4*x+2]?=some y_:=⟨_,La (by omega)⟩
  obtain ⟨c3,hi3⟩:∃ y_,bs[4*x+3]?=some y_:=⟨_,La (by omega)⟩
  have hwb:Pl.wordB bs x=Pl.be4 c0 c1 c2 c3:=by unfold Pl.wordB; simp only [List.getD_eq_getElem?_getD,hi1,hi2,hi3,show bs[4*x]?=some c0 from hi0,Option.getD_some]
  refine au 10 ?_
  refine dw [0,3,6,9,12,15,18,21,24,27,30,33,36,39,42,45,48,51,54,57,60,63,66,69,72,75,78,81,84,87,90,93,96,2,99,102,106] hm fun w hw hm0 hh hm=>?_
  refine au 3 ?_
  refine Ja rfl rfl (Vy rfl rfl (mulK 4 (by omega))) ?_
  refine Ja rfl rfl (Qy rfl rfl sl22.h hp4 (by omega) (by omega)) ?_
  refine Ja rfl rfl (J3 rfl sc5.h (hp4▸hx.Yu hm0.to hap).nd JG hi0 rfl) ?_
  refine Ja rfl rfl (JX rfl is5 it120 w_of8) ?_
  refine Ja rfl rfl (y_shl rfl rfl (by decide) (w_shl 24 rfl (by decide))) ?_
  refine au 2 ?_
  refine Ja rfl rfl (Vy rfl rfl (mulK 4 (by omega))) ?_
  refine Ja rfl rfl (J5 rfl rfl (addK 1 (by omega))) ?_
  refine Ja rfl rfl (Qy rfl rfl sl22.h hp4 (by omega) (by omega)) ?_
  refine Ja rfl rfl (J3 rfl sc5.h (hp4▸hx.Yu hm0.to hap).nd JG hi1 rfl) ?_
  refine Ja rfl rfl (JX rfl is5 it120 w_of8) ?_
  refine Ja rfl rfl (y_shl rfl rfl (by decide) (w_shl 16 rfl (by decide))) ?_
  refine Ja rfl rfl (y_or_ rfl rfl w_or) ?_
  refine au 2 ?_
  refine Ja rfl rfl (Vy rfl rfl (mulK 4 (by omega))) ?_
  refine Ja rfl rfl (J5 rfl rfl (addK 2 (by omega))) ?_
  refine Ja rfl rfl (Qy rfl rfl sl22.h hp4 (by omega) (by omega)) ?_
  refine Ja rfl rfl (J3 rfl sc5.h (hp4▸hx.Yu hm0.to hap).nd JG hi2 rfl) ?_
  refine Ja rfl rfl (JX rfl is5 it120 w_of8) ?_
  refine Ja rfl rfl (y_shl rfl rfl (by decide) (w_shl 8 rfl (by decide))) ?_
  refine Ja rfl rfl (y_or_ rfl rfl w_or) ?_
  refine au 2 ?_
  refine Ja rfl rfl (Vy rfl rfl (mulK 4 (by omega))) ?_
  refine Ja rfl rfl (J5 rfl rfl (addK 3 (by omega))) ?_
  refine Ja rfl rfl (Qy rfl rfl sl22.h hp4 (by omega) (by omega)) ?_
  refine Ja rfl rfl (J3 rfl sc5.h (hp4▸hx.Yu hm0.to hap).nd JG hi3 rfl) ?_
  refine Ja rfl rfl (JX rfl is5 it120 w_of8) ?_
  refine au 1 ?_
  refine Ja rfl rfl (y_or_ rfl rfl w_or) ?_
  refine Ja rfl rfl (JO rfl rfl ar186 (by omega) (by omega)) ?_
  refine Vi rfl rfl rfl rfl sz120 rfl hm 0 rfl (by rw [Nat.ble_eq,lenW,Lc,Pl.VQ,List.length_replicate]; simp only [LG]; omega) fun w hm=>?_
  have hm2:Mem w0 w (fun k=>k=m) [(m1,.row 186 (upds ((Pl.V8 bs x++List.replicate (16-x) 0).flatMap Zn) (0+x*1) [.int .u32 ((Pl.be4 c0 c1 c2 c3).toNat:Int)])),(m,(.row TT (stV s rv n)))]:=hm
  rw [setW,fill_next (Pl.VQ bs x) (by omega),← hwb,← Pl.wordsB_next] at hm2
  refine au 7 ?_
  refine next (x+1) (by omega) ⟨hm2,by omega⟩ ⟨nx x,rfl,rfl,rfl,trivial⟩
 ·
  simp only [dF] at hc0
  obtain rfl:x=16:=by omega
  rw [Nat.sub_self,List.replicate_zero,Lq] at hm
  refine au 10 ?_
  refine Ja rfl rfl (Jm (s:=8) (vs:=[_,_,_,_,_,_,_,_]) rfl ag121.h (hm.nt 1 rfl) rfl) ?_
  refine aT hm fun m2 w hm=>?_
  refine st hm 0 fun w hm=>?_
  refine au 5 ?_
  refine cA rfl rfl rfl (h_keys _) hm fun w hm=>?_
  refine au 4 ?_
  refine Jg (ι:=Nat×List UInt32) rfl (ks:=[0,4,6,64]) (.cons rfl (.cons rfl (.cons rfl (.cons rfl .nil)))) (fun x=>[(65,.int .i64 x.1)]) (fun x w=>Mem w0 w (fun k=>k=m) [(m2,.row 121 (s8V (Pl.rnds Pl.shK (Pl.Q0 bs) s x.1))),(m1,.row 186 (x.2.flatMap Zn)),(m,(.row TT (stV s rv n)))]∧Pl.Ring x.2 (Pl.Q0 bs) x.1∧x.1≤64) (fun x=>64-x.1) (0,Pl.V8 bs 16) (⟨hm,Pl.Ring.start bs,LL _⟩) ⟨rfl,trivial⟩ (fun x w hM=>?_)
  obtain ⟨hm,hR,hk⟩:=hM
  refine au 6 ?_
  refine cd (fun hc1=>?_) fun hc1=>?_
  ·
   simp only [dT] at hc1
   obtain ⟨t,r⟩:=x
   simp only at hm hR hk hc1 ⊢
   have hKt:Pl.shK[t]?=some (Pl.shK.getD t 0):=by rw [List.getD_eq_getElem?_getD,La (by rw [Pl.shK_len]; omega)]; rfl
   refine au 7 ?_
   refine Ja rfl rfl (y_indexV rfl rfl ar187 sc120.h (by omega) (getW hKt)) ?_
   refine au 4 ?_
   refine Xc (ι:=List UInt32) rfl (ks:=[0,4,6,7,8,64,65]) (.cons rfl (.cons rfl (.cons rfl (.cons rfl (.cons rfl (.cons rfl (.cons rfl .nil))))))) (fun r9=>[]) (fun r9 w=>Mem w0 w (fun k=>k=m) [(m2,.row 121 (s8V (Pl.rnds Pl.shK (Pl.Q0 bs) s t))),(m1,.row 186 (r9.flatMap Zn)),(m,(.row TT (stV s rv n)))]∧Pl.Ring r9 (Pl.Q0 bs) (t+1)) ?_ (fun r9 w hM=>?_)
   ·
    refine au 6 ?_
    refine cd (fun hc2=>?_) fun hc2=>?_
    ·
     simp only [dT] at hc2
     refine au 1 ?_
     refine dw [0,3,6,9,12,15,18,21,24,27,30,33] hm fun w hw hm0 hh hm=>?_
     refine au 1 ?_
     refine Ja rfl rfl (J5 rfl rfl (addK 1 (by omega))) ?_
     refine Ja rfl rfl (VA rfl rfl (i_and15 (by omega))) ?_
     refine Ja rfl rfl (JO rfl rfl ar186 (Int.natCast_nonneg _) (by omega)) ?_
     refine Ja rfl rfl (Jh rfl sc120.h (hm0.nd 1 rfl id) (getW (hR.at (Pl.YC bs) (i:=t-15) (by omega) (by omega) (by omega) (by omega)))) ?_
     refine au 1 ?_
     refine Ja rfl rfl (J5 rfl rfl (addK 14 (by omega))) ?_
     refine Ja rfl rfl (VA rfl rfl (i_and15 (by omega))) ?_
     refine Ja rfl rfl (JO rfl rfl ar186 (Int.natCast_nonneg _) (by omega)) ?_
     refine Ja rfl rfl (Jh rfl sc120.h (hm0.nd 1 rfl id) (getW (hR.at (Pl.YC bs) (i:=t-2) (by omega) (by omega) (by omega) (by omega)))) ?_
     refine au 7 ?_
     refine cA rfl rfl rfl (XP _ 7 _ (by decide) (by decide)) hm fun w hm=>?_
     refine au 1 ?_
     refine cA rfl rfl rfl (XP _ 18 _ (by decide) (by decide)) hm fun w hm=>?_
     refine Ja rfl rfl (Vw rfl rfl XF) ?_
     refine au 1 ?_
     refine Ja rfl rfl (V1 rfl rfl (by decide) (Yz 3 rfl (by decide))) ?_
     refine Ja rfl rfl (Vw rfl rfl XF) ?_
     refine au 6 ?_
     refine cA rfl rfl rfl (XP _ 17 _ (by decide) (by decide)) hm fun w hm=>?_
     refine au 1 ?_
     refine cA rfl rfl rfl (XP _ 19 _ (by decide) (by decide)) hm fun w hm=>?_
     refine Ja rfl rfl (Vw rfl rfl XF) ?_
     refine au 1 ?_
     refine Ja rfl rfl (V1 rfl rfl (by decide) (Yz 10 rfl (by decide))) ?_
     refine Ja rfl rfl (Vw rfl rfl XF) ?_
     refine au 3 ?_
     refine dw [0,3,6,9,12,15,18,21,24,27,30,33,36,2,39,42,46] hm fun w hw hm0 hh hm=>?_
     refine au 1 ?_
     refine Ja rfl rfl (VA rfl rfl (i_and15 (by omega))) ?_
     refine Ja rfl rfl (JO rfl rfl ar186 (Int.natCast_nonneg _) (by omega)) ?_
     refine Ja rfl rfl (Jh rfl sc120.h (hm0.nd 1 rfl id) (getW (hR.at (Pl.YC bs) (i:=t-16) (by omega) (by omega) (by omega) (by omega)))) ?_
     refine au 2 ?_
     refine Ja rfl rfl (J5 rfl rfl (addK 9 (by omega))) ?_
     refine Ja rfl rfl (VA rfl rfl (i_and15 (by omega))) ?_
     refine Ja rfl rfl (JO rfl rfl ar186 (Int.natCast_nonneg _) (by omega)) ?_
     refine Ja rfl rfl (Jh rfl sc120.h (hm0.nd 1 rfl id) (getW (hR.at (Pl.YC bs) (i:=t-7) (by omega) (by omega) (by omega) (by omega)))) ?_
     refine Ja rfl rfl (J5 rfl rfl YA) ?_
     refine au 1 ?_
     refine Ja rfl rfl (J5 rfl rfl YA) ?_
     refine au 1 ?_
     refine Ja rfl rfl (J5 rfl rfl YA) ?_
     refine Ja rfl rfl (JO rfl rfl ar186 (Int.natCast_nonneg _) (by omega)) ?_
     refine Vi rfl rfl rfl rfl sz120 rfl hm 1 rfl (by rw [Nat.ble_eq,lenW,hR.len]; simp only [LG]; omega) fun w hm=>?_
     have hm2:Mem w0 w (fun k=>k=m) [(m2,.row 121 (s8V (Pl.rnds Pl.shK (Pl.Q0 bs) s t))),(m1,.row 186 (upds (r.flatMap Zn) (0+(t%16)*1) [.int .u32 (((Pl.Q0 bs).getD (t-16) 0+(Pl.sg0 ((Pl.Q0 bs).getD (t-15) 0)+(Pl.Q0 bs).getD (t-7) 0+Pl.sg1 ((Pl.Q0 bs).getD (t-2) 0))).toNat:Int)])),(m,(.row TT (stV s rv n)))]:=hm
     rw [setW] at hm2
     refine au 1 ?_
     first | exact Qt _ ⟨hm2,hR.next1 (by omega) (by omega) (Pl.schB_ring bs (by omega) (by omega))⟩ ⟨rfl,rfl,rfl,rfl,rfl,rfl,rfl,trivial⟩ | exact Qt r ⟨hm,hR.next0 (by omega)⟩ ⟨rfl,rfl,rfl,rfl,rfl,rfl,rfl,trivial⟩
    ·
     simp only [dF] at hc2
     refine au 1 ?_
     first | exact Qt _ ⟨hm2,hR.next1 (by omega) (by omega) (Pl.schB_ring bs (by omega) (by omega))⟩ ⟨rfl,rfl,rfl,rfl,rfl,rfl,rfl,trivial⟩ | exact Qt r ⟨hm,hR.next0 (by omega)⟩ ⟨rfl,rfl,rfl,rfl,rfl,rfl,rfl,trivial⟩
   ·
    obtain ⟨hm,hR⟩:=hM
    refine au 1 ?_
    refine dw [0,3,6,9,12,15] hm fun w hw hm0 hh hm=>?_
    refine Ja rfl rfl (JO rfl rfl ar121 (by omega) (by omega)) ?_
    refine au 1 ?_
    refine Ja rfl rfl (JO rfl rfl ar121 (by omega) (by omega)) ?_
    refine au 7 ?_
    refine Ja rfl rfl (JO rfl rfl ar121 (by omega) (by omega)) ?_
    refine au 2 ?_
    refine Ja rfl rfl (JO rfl rfl ar121 (by omega) (by omega)) ?_
    refine au 1 ?_
    refine Ja rfl rfl (JO rfl rfl ar121 (by omega) (by omega)) ?_
    refine au 1 ?_
    refine Ja rfl rfl (Vw rfl rfl XF) ?_
    refine Ja rfl rfl (VA rfl rfl w_and) ?_
    refine Ja rfl rfl (Vw rfl rfl XF) ?_
    refine au 6 ?_
    refine Ja rfl rfl (JO rfl rfl ar121 (by omega) (by omega)) ?_
    refine au 1 ?_
    refine Ja rfl rfl (VA rfl rfl w_and) ?_
    refine Ja rfl rfl (JO rfl rfl ar121 (by omega) (by omega)) ?_
    refine au 2 ?_
    refine Ja rfl rfl (JO rfl rfl ar121 (by omega) (by omega)) ?_
    refine au 1 ?_
    refine Ja rfl rfl (y_or_ rfl rfl w_or) ?_
    refine Ja rfl rfl (VA rfl rfl w_and) ?_
    refine Ja rfl rfl (y_or_ rfl rfl w_or) ?_
    refine au 3 ?_
    refine Xc (ι:=Unit) rfl (ks:=[0,4,6,7,8,13,14,15,16,64,65]) (.cons rfl (.cons rfl (.cons rfl (.cons rfl (.cons rfl (.cons rfl (.cons rfl (.cons rfl (.cons rfl (.cons rfl (.cons rfl .nil))))))))))) (fun u9=>[(17,.int .u32 ((Pl.shT1 (Pl.rnds Pl.shK (Pl.Q0 bs) s t) (Pl.shK.getD t 0) ((Pl.Q0 bs).getD t 0)).toNat:Int))]) (fun u9 w=>Mem w0 w (fun k=>k=m) [(m2,.row 121 (s8V (Pl.rnds Pl.shK (Pl.Q0 bs) s t))),(m1,.row 186 (r9.flatMap Zn)),(m,(.row TT (stV s rv n)))]) ?_ (fun u9 w hM=>?_)
    ·
     refine dw [0,3,6,12,21,33,39,45,48,51,54,10,16,18,25,27,30,36,42,57,60] hm fun w hw hm0 hh hm=>?_
     refine Ja rfl rfl (JO rfl rfl ar121 (by omega) (by omega)) ?_
     refine au 7 ?_
     refine Ja rfl rfl (VA rfl rfl (i_and15 (by omega))) ?_
     refine Ja rfl rfl (JO rfl rfl ar186 (Int.natCast_nonneg _) (by omega)) ?_
     refine Ja rfl rfl (Jh rfl sc120.h (hm0.nd 1 rfl id) (getW (hR.at (Pl.YC bs) (i:=t) (by omega) (by omega) (by omega) rfl))) ?_
     refine cB rfl rfl rfl (XP _ 6 _ (by decide) (by decide)) hm hh fun w hm hh=>?_
     refine cB rfl rfl rfl (XP _ 11 _ (by decide) (by decide)) hm hh fun w hm hh=>?_
     refine Ja rfl rfl (Vw rfl rfl XF) ?_
     refine cB rfl rfl rfl (XP _ 25 _ (by decide) (by decide)) hm hh fun w hm hh=>?_
     refine Ja rfl rfl (Vw rfl rfl XF) ?_
     refine Ja rfl rfl (J5 rfl rfl YA) ?_
     refine Ja rfl rfl (J5 rfl rfl YA) ?_
     refine Ja rfl rfl (J5 rfl rfl YA) ?_
     refine Ja rfl rfl (J5 rfl rfl YA) ?_
     refine au 2 ?_
     exact Qt () hm ⟨by rw [← Pl.t1_eq]; rfl,rfl,rfl,rfl,rfl,rfl,rfl,rfl,rfl,rfl,rfl,rfl,trivial⟩
    ·
     have hm:=hM
     refine au 3 ?_
     refine cA rfl rfl rfl (XP _ 2 _ (by decide) (by decide)) hm fun w hm=>?_
     refine au 1 ?_
     refine cA rfl rfl rfl (XP _ 13 _ (by decide) (by decide)) hm fun w hm=>?_
     refine Ja rfl rfl (Vw rfl rfl XF) ?_
     refine au 1 ?_
     refine cA rfl rfl rfl (XP _ 22 _ (by decide) (by decide)) hm fun w hm=>?_
     refine Ja rfl rfl (Vw rfl rfl XF) ?_
     refine au 1 ?_
     refine Ja rfl rfl (J5 rfl rfl YA) ?_
     refine au 4 ?_
     refine dw [0,3,2,7] hm fun w hw hm0 hh hm=>?_
     refine Ja rfl rfl (Yx (ln:=1) (hn:=8) rfl ar121 ⟨_,rfl⟩ rfl (by omega) (by omega) (by omega)) ?_
     refine Ja rfl rfl (Yx (ln:=0) (hn:=7) rfl ar121 rfl ⟨_,rfl⟩ (by omega) (by omega) (by omega)) ?_
     refine au 1 ?_
     refine a_copyR (src:=(s8V (Pl.rnds Pl.shK (Pl.Q0 bs) s t)).take 7) rfl rfl rfl rfl rfl sl190.h hm 0 rfl (LP 8) (Rd.row (hm.get (k:=0) rfl) takeP) rfl rfl fun w hm=>?_
     refine au 4 ?_
     refine Ja rfl rfl (JO rfl rfl ar121 (by omega) (by omega)) ?_
     refine au 2 ?_
     refine Ja rfl rfl (J5 rfl rfl YA) ?_
     refine Ja rfl rfl (JO rfl rfl ar121 (by omega) (by omega)) ?_
     refine st hm 0 fun w hm=>?_
     refine au 5 ?_
     refine Ja rfl rfl (J5 rfl rfl YA) ?_
     refine Ja rfl rfl (JO rfl rfl ar121 (by omega) (by omega)) ?_
     refine st hm 0 fun w hm=>?_
     have hm3:Mem w0 w (fun k=>k=m) [(m2,.row 121 (s8V (Pl.rnds Pl.shK (Pl.Q0 bs) s (t+1)))),(m1,.row 186 (r9.flatMap Zn)),(m,(.row TT (stV s rv n)))]:=by have e:=Pl.t2_eq (Pl.rnds Pl.shK (Pl.Q0 bs) s t); unfold Pl.rnds Pl.rnd; rw [← e]; exact hm
     refine au 7 ?_
     refine next (t+1,r9) (by simp only; omega) ⟨hm3,hR,by simp only; omega⟩ ⟨nx t,rfl,rfl,rfl,rfl,trivial⟩
  ·
   simp only [dF] at hc1
   obtain ⟨t,r⟩:=x
   simp only at hm hR hk hc1 ⊢
   obtain rfl:t=64:=by omega
   refine au 7 ?_
   refine Ja rfl rfl (Jm (s:=8) (vs:=[_,_,_,_,_,_,_,_]) rfl ag121.h (hm.nt 0 rfl) rfl) ?_
   refine au 4 ?_
   refine Jg (ι:=Nat) rfl (ks:=[0,181]) (.cons rfl (.cons rfl .nil)) (fun y=>[(182,.int .i64 y)]) (fun y w=>Mem w0 w (fun k=>k=m) [(m2,.row 121 (s8V (Pl.rnds Pl.shK (Pl.Q0 bs) s 64))),(m1,.row 186 (r.flatMap Zn)),(m,.row TT (stL (addTo s (Pl.rnds Pl.shK (Pl.Q0 bs) s 64) y) rv n))]∧y≤8) (fun y=>8-y) 0 (⟨hm,LL _⟩) ⟨rfl,trivial⟩ (fun y w hM=>?_)
   obtain ⟨hm,hk⟩:=hM
   refine au 6 ?_
   refine cd (fun hc3=>?_) fun hc3=>?_
   ·
    simp only [dT] at hc3
    refine au 7 ?_
    refine Ja rfl rfl (y_indexV rfl rfl ar121 sc120.h (by omega) (S8get (by omega))) ?_
    refine au 4 ?_
    refine dw [0,3,6,9,12,15,18,21,24,27,2,30,34] hm fun w hw hm0 hh hm=>?_
    refine au 4 ?_
    refine Ja rfl rfl (JO rfl rfl ar121 (by omega) (by omega)) ?_
    refine Ja rfl rfl (Jh rfl sc120.h (hm0.nd 2 rfl id) (stL_get (addTo_get _ _ (by omega)))) ?_
    refine au 1 ?_
    refine Ja rfl rfl (J5 rfl rfl YA) ?_
    refine au 3 ?_
    refine Ja rfl rfl (JO rfl rfl ar121 (by omega) (by omega)) ?_
    refine Vi rfl rfl rfl rfl sz120 rfl hm 2 rfl (by rw [Nat.ble_eq]; unfold stL; rw [Lc,lenW,addTo_len _ _ (by omega)]; simp only [Li,LA]; omega) fun w hm=>?_
    have hm2:Mem w0 w (fun k=>k=m) [(m2,.row 121 (s8V (Pl.rnds Pl.shK (Pl.Q0 bs) s 64))),(m1,.row 186 (r.flatMap Zn)),(m,.row TT (upds (stL (addTo s (Pl.rnds Pl.shK (Pl.Q0 bs) s 64) y) rv n) (0+y*1) [.int .u32 ((s.l.getD y 0+(Pl.rnds Pl.shK (Pl.Q0 bs) s 64).l.getD y 0).toNat:Int)]))]:=hm
    rw [stL_set (by rw [addTo_len _ _ (by omega)]; omega),addTo_set _ _ (by omega)] at hm2
    refine au 7 ?_
    refine next (y+1) (by omega) ⟨hm2,by omega⟩ ⟨nx y,rfl,rfl,trivial⟩
   ·
    simp only [dF] at hc3
    obtain rfl:y=8:=by omega
    refine au 4 ?_
    refine toN (fin Jc rfl .nil .nil ?_)
    exact ⟨rfl,(hm.pick [2] rfl)⟩
theorem h_take(bs:List UInt8)(q:Option Addr)(cq:Nat)(TT m:Nat)(msg:List UInt8)(Z:List (Nat×Blk))(w0:World)(hZ:Jr w0 Z)(hz:VN TT 5 msg m Z)(hml:msg.length≤1000000000000)(hq:Rd w0 q (bs.flatMap Jk))(hap:bs.flatMap Jk≠[]→∀ ad,q=some ad→¬ Mn (reals Z) ad.block)(hbl:bs.length≤1000000000000):C Tryz.prog 59 [.pointer (some ⟨m,0,none⟩),.slice q bs.length cq] w0 fun v w'=>v=.tuple ⟨[]⟩∧∃ Z',VN TT 5 (msg++bs) m Z'∧Mem w0 w' (Mn (reals Z)) Z':=by
 have hm0:=hZ.start
 generalize Mn (reals Z)=X at hap hm0 ⊢
 obtain ⟨p,cap,g,b,rfl,ha⟩:=hz
 have hrl:=Pl.Zw msg
 refine Vk Tryz.func59 rfl rfl rfl fun κ _ Je Jc=>?_
 have hm:=hm0
 refine au 8 ?_
 refine Ja rfl rfl (J5 rfl rfl ((addK _ (by omega)).trans (show _=(((msg++bs).length:Nat):Int) by rw [Lc]))) ?_
 refine au 2 ?_
 refine st hm 0 fun w hm=>?_
 refine au 10 ?_
 refine a_appendO rfl rfl rfl rfl rfl rfl sl22.h sl22.h z5.h rfl (Zl bs) (hq.Yu hm.to hap) (J0 bs) ha hm 1 rfl (by omega) (by omega) fun p_s cap_s g_s b_s w ha_s hm=>?_
 have hR0:=Pl.shRest_app msg bs
 have hS0:=Pl.shFold_st msg bs
 have hLr:(Pl.Vr msg++bs).length=(Pl.Vr msg).length+bs.length:=Lc
 refine au 2 ?_
 refine st hm 0 fun w hm=>?_
 refine au 3 ?_
 refine Jg (ι:=Nat) rfl (ks:=[0]) (.cons rfl .nil) (fun k=>[]) (fun k w=>∃ p9 c9,Mem w0 w X [(m,.row TT (stV (Pl.Zx Pl.shI (msg++bs) k) (.slice p9 ((msg++bs).drop (64*k)).length c9) ((msg++bs).length:Int))),(g_s,b_s)]∧Acco 5 1 p9 ((msg++bs).drop (64*k)).length c9 (((msg++bs).drop (64*k)).flatMap Jk) g_s b_s∧64*k≤(msg++bs).length) (fun k=>(msg++bs).length+1-64*k) (msg.length/64) (⟨p_s,cap_s,by rw [hR0,hS0,hLr]; exact hm,by rw [hR0,hLr,Lh]; exact ha_s,by rw [Lc]; omega⟩) trivial (fun k w hM=>?_)
 obtain ⟨p9,c9,hm,ha,hk⟩:=hM
 refine au 11 ?_
 refine cd (fun hc0=>?_) fun hc0=>?_
 ·
  simp only [dT] at hc0
  have hle9:=ha.le
  have hk9:((msg++bs).drop (64*k)).length=(msg++bs).length-64*k:=Lm
  have hLd:(((msg++bs).drop (64*k)).drop 64).length=((msg++bs).drop (64*k)).length-64:=Lm
  refine au 10 ?_
  refine Ja rfl rfl (JE (ln:=0) (hn:=64) rfl sl22.h rfl ⟨_,rfl⟩ (by omega) (by omega) (fun h=>ha.spot (by omega))) ?_
  refine cT rfl rfl rfl (h_block TT m _ _ _ _ _ (((msg++bs).drop (64*k)).take 64) _ (hm.get (k:=0) rfl) ((ha.rdM hm (by simp)).take0 ha.le) (ha.apart0 hm 1 0 rfl rfl rfl 64 rfl) (by rw [Lg]; omega)) fun v w hR=>?_
  obtain ⟨rfl,hmc⟩:=hR
  replace hm:=hm.Qv 0 rfl hmc
  refine au 8 ?_
  refine Ja rfl rfl (JE (ln:=64) (hn:=((msg++bs).drop (64*k)).length) rfl sl22.h ⟨_,rfl⟩ rfl (by omega) (by omega) (fun h=>ha.spot (by omega))) ?_
  refine au 2 ?_
  refine st hm 0 fun w hm=>?_
  refine au 2 ?_
  refine next (k+1) (by omega) ⟨slp p9 c9 64 1,c9-64,?_,?_,by omega⟩ ⟨rfl,trivial⟩
  · rw [Pl.sh_drop,hLd]; exact hm
  · rw [Pl.sh_drop,hLd,← dropB]; exact ha.cut (by omega)
 ·
  simp only [dF] at hc0
  have hke:=Pl.sh_stop hk (by omega)
  subst hke
  refine au 4 ?_
  refine toN (fin Jc rfl .nil .nil ?_)
  exact ⟨rfl,_,⟨_,_,_,_,rfl,ha⟩,hm⟩
theorem h_initial(w0:World):C Tryz.prog 58 [] w0 fun v w'=>v=.agg ⟨stV Pl.shI (.slice none 0 0) 0⟩∧Ext No w0 w':=by
 refine C_o Tryz.func58 fun κ _ Je Jc hm=>?_
 refine au 2 ?_
 refine aT hm fun m1 w hm=>?_
 refine au 4 ?_
 refine Ja rfl rfl (Qe (cs:=[_,_,_,_,_,_,_,_]) z121.h ft121.h rfl rfl rfl rfl rfl) ?_
 refine Ja rfl rfl (Qe (cs:=[_,_,_,_,_,_,_,_,_,_]) z123.h ft123.h rfl rfl rfl rfl rfl) ?_
 refine st hm 0 fun w hm=>?_
 refine au 3 ?_
 refine toR (fin Je rfl (.cell rfl (Ju (vs:=[_,_,_,_,_,_,_,_,_,_]) ag123.h (hm.get (k:=0) rfl) rfl) .nil) .one ?_)
 exact ⟨rfl,hm.to⟩
theorem h_copied(TT m:Nat)(msg:List UInt8)(Z:List (Nat×Blk))(w0:World)(hZ:Jr w0 Z)(hz:VN TT 5 msg m Z)(hml:msg.length≤1000000000000):C Tryz.prog 60 [.pointer (some ⟨m,0,none⟩)] w0 fun v w'=>∃ p9 c9 g9 b9,v=.agg ⟨stV (Pl.shSt msg) (.slice p9 (Pl.Vr msg).length c9) (msg.length:Int)⟩∧Acc 5 1 p9 (Pl.Vr msg).length c9 ((Pl.Vr msg).flatMap Jk) g9 b9∧Mem w0 w' No [(g9,b9)]:=by
 obtain ⟨p,cap,g,b,rfl,ha⟩:=hz
 have hP:w0.heap[m]?=some (Blk.row TT (stV (Pl.shSt msg) (.slice p (Pl.Vr msg).length cap) (msg.length:Int))).Jd:=hZ.get (k:=0) rfl
 have hrl:=Pl.Zw msg
 have hRd:=ha.rdM hZ.start (by simp)
 refine C_o Tryz.func60 fun κ _ Je Jc hm=>?_
 refine au 2 ?_
 refine aT hm fun m1 w hm=>?_
 refine au 6 ?_
 refine Ja rfl rfl (Jm (s:=10) (vs:=[_,_,_,_,_,_,_,_,_,_]) rfl ag123.h (Qo ((hm.to.same _ (Lb.1 hP).1 id).trans hP)) rfl) ?_
 refine aT hm fun m2 w hm=>?_
 refine st hm 0 fun w hm=>?_
 refine au 8 ?_
 refine cT rfl rfl rfl (V0 p cap (Pl.Vr msg) _ (hRd.Jj hm.to) (by omega)) fun v w hR=>?_
 obtain ⟨p_s,cap_s,g_s,b_s,rfl,ha_s,hmc⟩:=hR
 replace hm:=hm.Jt hmc
 refine au 1 ?_
 refine st hm 1 fun w hm=>?_
 refine au 4 ?_
 refine Ja rfl rfl (Jm (s:=10) (vs:=[_,_,_,_,_,_,_,_,_,_]) rfl ag123.h (hm.nt 1 rfl) rfl) ?_
 refine st hm 2 fun w hm=>?_
 refine au 3 ?_
 refine toR (fin Je rfl (.cell rfl (Ju (vs:=[_,_,_,_,_,_,_,_,_,_]) ag123.h (hm.get (k:=2) rfl) rfl) .nil) .one ?_)
 exact ⟨p_s,cap_s,g_s,b_s,rfl,ha_s,(hm.pick [0] rfl)⟩
theorem h_finish(TT m:Nat)(msg:List UInt8)(Z:List (Nat×Blk))(w0:World)(hZ:Jr w0 Z)(hz:VN TT 5 msg m Z)(hml:msg.length≤1000000000000):C Tryz.prog 61 [.pointer (some ⟨m,0,none⟩)] w0 fun v w'=>v=.agg ⟨(Pl.sha msg).flatMap Jk⟩∧∃ Z',Mem w0 w' (Mn (reals Z)) Z':=by
 have hzz:=hz
 obtain ⟨p,cap,g,b,hZe,ha⟩:=hzz
 have hrl:=Pl.Zw msg
 have hpz:(119-(Pl.Vr msg).length)%64=Pl.ZA msg.length:=by unfold Pl.ZA; rw [hrl]
 refine Vk Tryz.func61 rfl rfl rfl fun κ _ Je Jc=>?_
 have hm:=hZ.start
 refine au 2 ?_
 refine aT hm fun m1 w hm=>?_
 refine au 5 ?_
 have hPn:=(hZe▸Jr.right (A:=[_]) hm.Jz).get (k:=0) rfl
 refine au 2 ?_
 refine Ja rfl rfl (Jh rfl sc3.h (Qo hPn) rfl) ?_
 refine Ja rfl rfl (JX rfl is3 it55 (u64N.trans (by rw [Nat.mod_eq_of_lt (by omega)]))) ?_
 refine Ja rfl rfl (Vy rfl rfl (u_mul (b:=8) (by omega))) ?_
 refine au 5 ?_
 refine Jb (l:=[_]) rfl rfl sl22.h z5.h rfl rfl rfl rfl rfl rfl rfl hm trivial fun m2 w hg_m2 hm hh=>?_
 refine au 1 ?_
 have hPn:=(hZe▸Jr.right (A:=[_,_]) hm.Jz).get (k:=0) rfl
 refine au 2 ?_
 refine Ja rfl rfl (Jh rfl sc22.h (Qo hPn) rfl) ?_
 refine au 1 ?_
 refine Ja rfl rfl (QR rfl rfl (subK (a:=119) _ (by omega) (by decide))) ?_
 refine Ja rfl rfl (y_rem rfl rfl (by decide) ((remK _ 64).trans (by rw [hpz]))) ?_
 refine a_appendZ rfl rfl rfl rfl rfl rfl sl22.h it3 z5.h rfl rfl (Acc.row rfl) hm 0 rfl (by unfold Pl.ZA; omega) (by unfold Pl.ZA; omega) fun p_e cap_e g_e b_e w ha_e hm=>?_
 replace ha_e:=ha_e.to (show _=([128]++List.replicate (Pl.ZA msg.length) 0++(Pl.beN (msg.length*8) 8).take 0).flatMap Jk by rw [repB,List.take_zero,Lq,Lh]; rfl)
 have hne:=ha_e.J0
 rw [hne] at ha_e
 refine au 10 ?_
 refine Jg (ι:=Nat×Option Addr×Nat×Nat×Blk) rfl (ks:=[0,2,3]) (.cons rfl (.cons rfl (.cons rfl .nil))) (fun x=>[(5,.int .i64 (7-(x.1:Int))),(4,.slice x.2.1 ([128]++List.replicate (Pl.ZA msg.length) 0++(Pl.beN (msg.length*8) 8).take x.1).length x.2.2.1)]) (fun x w=>Mem w0 w (Mn (reals Z)) ((x.2.2.2.1,x.2.2.2.2)::(m1,.row 23 ((List.replicate 32 (0:UInt8)).flatMap Jk))::Z)∧Acc 5 1 x.2.1 ([128]++List.replicate (Pl.ZA msg.length) 0++(Pl.beN (msg.length*8) 8).take x.1).length x.2.2.1 (([128]++List.replicate (Pl.ZA msg.length) 0++(Pl.beN (msg.length*8) 8).take x.1).flatMap Jk) x.2.2.2.1 x.2.2.2.2∧x.1≤8) (fun x=>8-x.1) (0,p_e,cap_e,g_e,b_e) (⟨hm,ha_e,LL _⟩) ⟨rfl,LM (fun z=>some (Value.slice p_e z cap_e)) hne,trivial⟩ (fun x w hM=>?_)
 obtain ⟨hm,ha_e,hk⟩:=hM
 refine au 7 ?_
 refine cd (fun hc0=>?_) fun hc0=>?_
 ·
  simp only [dT] at hc0
  obtain ⟨y,p_e,cap_e,g_e,b_e⟩:=x
  simp only at hm ha_e hk hc0 ⊢
  have hel:([128]++List.replicate (Pl.ZA msg.length) 0++(Pl.beN (msg.length*8) 8).take y).length≤100:=by simp only [Lc,List.length_replicate,Lg,Pl.beN_len,Li,LA]; unfold Pl.ZA; omega
  have hbn:=Pl.beN_get (msg.length*8) 8 y (by omega)
  refine au 9 ?_
  refine Ja rfl rfl (V1 rfl rfl (by omega) rfl) ?_
  refine Ja rfl rfl (JX rfl is55 it5 (be_shift (y:=y) (by omega) rfl)) ?_
  refine Jb (l:=[_]) rfl rfl sl22.h z5.h rfl rfl rfl rfl rfl rfl rfl hm trivial fun m3 w hg_m3 hm hh=>?_
  refine Jy rfl rfl rfl rfl rfl rfl sl22.h sl22.h z5.h rfl rfl (Rd.JL (hm.get (k:=0) rfl)) rfl ha_e hm 1 rfl (by omega) (by omega) fun p_e cap_e g_e b_e w ha_e hm=>?_
  replace ha_e:=ha_e.to (show _=([128]++List.replicate (Pl.ZA msg.length) 0++(Pl.beN (msg.length*8) 8).take (y+1)).flatMap Jk by rw [LC,hbn,Option.toList,← Lp,Lh (xs:=([128]++List.replicate (Pl.ZA msg.length) 0++(Pl.beN (msg.length*8) 8).take y))]; rfl)
  have hne:=ha_e.J0
  refine au 9 ?_
  refine next (y+1,p_e,cap_e,g_e,b_e) (by simp only; omega) ⟨(hm.Jp [1,2] 3 rfl),?_,by simp only; omega⟩ ⟨LM (fun z=>some (Value.int .i64 z)) (show (7:Int)-(y:Int)-1=7-((y+1:Nat):Int) by omega),LM (fun z=>some (Value.slice p_e z cap_e)) hne,rfl,rfl,rfl,trivial⟩
  simp only
  rw [← hne]
  exact ha_e
 ·
  simp only [dF] at hc0
  obtain ⟨y,p_e,cap_e,g_e,b_e⟩:=x
  simp only at hm ha_e hk hc0 ⊢
  obtain rfl:y=8:=by omega
  have hee:([128]++List.replicate (Pl.ZA msg.length) 0++(Pl.beN (msg.length*8) 8).take 8)=Pl.XG msg.length:=by unfold Pl.XG; rw [LZ (by rw [Pl.beN_len]; exact LP _)]
  rw [hee] at ha_e ⊢
  have hpl:=(Pl.shPad_len msg.length).2
  refine au 9 ?_
  refine cT rfl rfl rfl (h_take (Pl.XG msg.length) p_e cap_e TT m msg Z _ (Jr.right (A:=[_,_]) hm.Jz) hz hml (ha_e.rd hm 0 rfl) (fun hn ad e h9=>by have q9:=ha_e.at9 hn; rw [q9.1] at e; cases e; exact Mem.notT (A:=[_,_]) hm (k:=0) rfl q9.2 h9) (by omega)) fun v w hR=>?_
  obtain ⟨rfl,Z9,hz9,hmc⟩:=hR
  replace hm:=Mem.JQ (A:=[_,_]) hm hmc
  obtain ⟨p9,cap9,g9,b9,rfl,ha9⟩:=hz9
  refine au 4 ?_
  refine aT hm fun m3 w hm=>?_
  refine au 9 ?_
  refine Jg (ι:=Nat) rfl (ks:=[0,2,6]) (.cons rfl (.cons rfl (.cons rfl .nil))) (fun x=>[(38,.int .i64 x)]) (fun x w=>Mem w0 w (Mn (reals Z)) [(m3,.row 23 (((Pl.shOut (Pl.shSt (msg++Pl.XG msg.length))).take x++List.replicate (32-x) 0).flatMap Jk)),(m,.row TT (stV (Pl.shSt (msg++Pl.XG msg.length)) (.slice p9 (Pl.Vr (msg++Pl.XG msg.length)).length cap9) ((msg++Pl.XG msg.length).length:Int))),(m1,.row 23 ((List.replicate 32 (0:UInt8)).flatMap Jk))]∧x≤32) (fun x=>32-x) 0 (⟨by rw [List.take_zero,L4,Nat.sub_zero]; exact (hm.pick [0,3,2] rfl),LL _⟩) ⟨rfl,trivial⟩ (fun x w hM=>?_)
  obtain ⟨hm,hk⟩:=hM
  refine au 6 ?_
  refine cd (fun hc1=>?_) fun hc1=>?_
  ·
   simp only [dT] at hc1
   have hog:=Pl.shOut_get (Pl.shSt (msg++Pl.XG msg.length)) (i:=x) (by omega)
   refine au 14 ?_
   refine Ja rfl rfl (Yy rfl rfl (by decide) (quoK x 4 (by omega) (by decide))) ?_
   refine au 2 ?_
   refine Ja rfl rfl (JO rfl rfl ar121 (Int.natCast_nonneg _) (by omega)) ?_
   refine Ja rfl rfl (Jh rfl sc120.h (hm.nt 1 rfl) (stV_get (i:=x/4) (by omega))) ?_
   refine au 1 ?_
   refine Ja rfl rfl (y_rem rfl rfl (by decide) (remK x 4)) ?_
   refine Ja rfl rfl (Vy rfl rfl (mulN (a:=x%4) (b:=8) (by omega))) ?_
   refine Ja rfl rfl (QR rfl rfl (subK (a:=24) _ (by omega) (by decide))) ?_
   refine Ja rfl rfl (V1 rfl rfl (Int.natCast_nonneg _) (Yz (UInt32.ofNat (24-x%4*8)) (by rw [oN (by omega)]) (by rw [oN (by omega)]; omega))) ?_
   refine Ja rfl rfl (JX rfl is120 it5 w_u8) ?_
   refine Ja rfl rfl (JO rfl rfl ar23 (Int.natCast_nonneg _) (by omega)) ?_
   refine Vi rfl rfl rfl rfl sz5 rfl hm 0 rfl (by rw [Nat.ble_eq,J0,Lc,Lg,List.length_replicate,Pl.Vf]; simp only [LG]; omega) fun w hm=>?_
   have hm2:=hm
   simp only [Qr] at hm2
   rw [show (x:Int).toNat=x from rfl,setB0,fill_next (by rw [Lg,Pl.Vf]; omega) (by omega),← Pl.QG hog] at hm2
   refine au 7 ?_
   refine next (x+1) (by omega) ⟨hm2,by omega⟩ ⟨nx x,rfl,rfl,rfl,trivial⟩
  ·
   simp only [dF] at hc1
   obtain rfl:x=32:=by omega
   rw [Nat.sub_self,List.replicate_zero,Lq,LZ (by rw [Pl.Vf]; exact LP _)] at hm
   refine au 7 ?_
   refine Ja rfl rfl (Jm (s:=32) (vs:=(((Pl.shOut (Pl.shSt (msg++Pl.XG msg.length)))).flatMap Jk)) rfl ag23.h (hm.nt 0 rfl) (nthsB (Pl.Vf _))) ?_
   refine Vi rfl rfl rfl rfl (sz23.trans (LM some (XQ (Pl.Vf _)).symm)) (Zl _) hm 2 rfl (by rw [Nat.ble_eq,XQ (Pl.Vf _),XQ List.length_replicate]; exact LP 32) fun w hm=>?_
   rw [upds_all (by rw [XQ (Pl.Vf _),XQ List.length_replicate])] at hm
   refine au 3 ?_
   refine toR (fin Je rfl (.cell rfl (Ju (vs:=(((Pl.shOut (Pl.shSt (msg++Pl.XG msg.length)))).flatMap Jk)) ag23.h (hm.get (k:=2) rfl) (nthsB (Pl.Vf _))) .nil) .one ?_)
   exact ⟨rfl,_,hm⟩
theorem h_new(w0:World):C Tryz.prog 40 [] w0 fun v w'=>∃ m Z,v=.pointer (some ⟨m,0,none⟩)∧VN 126 5 [] m Z∧Mem w0 w' No Z:=by
 refine C_o Tryz.func40 fun κ _ Je Jc hm=>?_
 refine au 7 ?_
 refine cA rfl rfl rfl (h_initial _) hm fun w hm=>?_
 refine Ja rfl rfl (Qe (cs:=[_,_,_,_,_,_,_,_,_,_]) z126.h ft126.h rfl rfl rfl rfl rfl) ?_
 refine bT hm fun m1 w hm=>?_
 refine au 5 ?_
 exact ⟨_,_,rfl,⟨none,0,0,.gap,rfl,(Acc.nil _ _ _ _).o⟩,(hm.JP.pick [1,0] rfl)⟩
theorem h_write(q:Option Addr)(cq:Nat)(ps:List SB)(TT m:Nat)(msg:List UInt8)(Z:List (Nat×Blk))(w0:World)(hZ:Jr w0 Z)(hz:VN TT 5 msg m Z)(hml:msg.length≤1000000000000)(hq:Rd w0 q (ps.flatMap encS))(hps:∀ s∈ps,Rd w0 s.p (s.bs.flatMap Jk))(hqa:ps.flatMap encS≠[]→∀ ad,q=some ad→¬ Mn (reals Z) ad.block)(hpa:∀ s∈ps,s.bs.flatMap Jk≠[]→∀ ad,s.p=some ad→¬ Mn (reals Z) ad.block)(hl:ps.length≤1000000000000)(hbl:msg.length+(ps.flatMap (·.bs)).length≤1000000000000):C Tryz.prog 41 [.pointer (some ⟨m,0,none⟩),.slice q ps.length cq] w0 fun v w'=>v=.int .i64 ((ps.flatMap (·.bs)).length:Int)∧∃ Z',VN TT 5 (msg++(ps.flatMap (·.bs))) m Z'∧Mem w0 w' (Mn (reals Z)) Z':=by
 refine Vk Tryz.func41 rfl rfl rfl fun κ _ Je Jc=>?_
 have hm:=hZ.start
 refine au 18 ?_
 obtain ⟨rv_,hPn⟩:=hz.row hZ
 refine au 3 ?_
 refine Ja rfl rfl (Jh rfl sc3.h (Qo hPn) rfl) ?_
 refine au 12 ?_
 refine Jg (ι:=Nat×List (Nat×Blk)) rfl (ks:=[0,4,5,15,16]) (.cons rfl (.cons rfl (.cons rfl (.cons rfl (.cons rfl .nil))))) (fun x=>[(17,.int .i64 x.1)]) (fun x w=>Mem w0 w (Mn (reals Z)) x.2∧VN TT 5 (msg++(ps.take x.1).flatMap (·.bs)) m x.2∧x.1≤ps.length) (fun x=>ps.length-x.1) (0,Z) (⟨hm,by simpa using hz,LL _⟩) ⟨rfl,trivial⟩ (fun x w hM=>?_)
 obtain ⟨hm,hz_h,hk⟩:=hM
 refine au 6 ?_
 refine cd (fun hc1=>?_) fun hc1=>?_
 ·
  obtain ⟨x,Z_h⟩:=x
  simp only at hm hz_h hk hc1 ⊢
  simp only [dT] at hc1
  obtain ⟨s,hi⟩:∃ y_,ps[x]?=some y_:=⟨_,La (by omega)⟩
  obtain ⟨b2,o2,hp2⟩:=hq.atI V7 (by decide) hi
  have hsm:=Ld hi
  have hft:=Ze hi
  have hfl:=flat_le ps x
  have hfl1:=flat_le ps (x+1)
  rw [hft,Lc] at hfl1
  refine au 6 ?_
  refine Ja rfl rfl (Qy rfl rfl sl88.h hp2 (by omega) (by omega)) ?_
  refine Ja rfl rfl (J3 rfl sc22.h (hp2▸hq.Yu hm.to hqa).nt V7 hi rfl) ?_
  refine au 8 ?_
  refine cT rfl rfl rfl (h_take s.bs s.p s.cap TT m _ Z_h _ hm.Jz hz_h (by rw [Lc]; omega) ((hps s hsm).Yu hm.to (hpa s hsm)) (hm.apartX (hps s hsm) (hpa s hsm)) (by omega)) fun v w hR=>?_
  obtain ⟨rfl,Z_h,hz_h,hmc⟩:=hR
  replace hm:=Mem.JQ (A:=[]) hm hmc
  refine au 7 ?_
  refine next (x+1,Z_h) (by simp only; omega) ⟨hm,by simp only; rw [hft,← Lp]; exact hz_h,by simp only; omega⟩ ⟨nx x,rfl,rfl,rfl,rfl,rfl,trivial⟩
 ·
  obtain ⟨x,Z_h⟩:=x
  simp only at hm hz_h hk hc1 ⊢
  simp only [dF] at hc1
  obtain rfl:x=ps.length:=by omega
  rw [Lv] at hz_h
  refine au 8 ?_
  obtain ⟨rv_,hPn⟩:=hz_h.row hm.Jz
  refine au 3 ?_
  refine Ja rfl rfl (Jh rfl sc3.h (Qo hPn) rfl) ?_
  refine au 1 ?_
  refine Ja rfl rfl (QR rfl rfl ((subK _ (by rw [Lc]; omega) (by rw [Lc]; omega)).trans (show _=(((ps.flatMap (·.bs)).length:Nat):Int) by rw [Lc,Kk]))) ?_
  refine au 5 ?_
  exact ⟨rfl,Z_h,hz_h,hm⟩
theorem h_sum(TT m:Nat)(msg:List UInt8)(Z:List (Nat×Blk))(w0:World)(hZ:Jr w0 Z)(hz:VN TT 5 msg m Z)(hml:msg.length≤1000000000000):C Tryz.prog 42 [.pointer (some ⟨m,0,none⟩)] w0 fun v w'=>v=.agg ⟨(Pl.sha msg).flatMap Jk⟩∧Ext No w0 w':=by
 refine C_o Tryz.func42 fun κ _ Je Jc hm=>?_
 refine au 2 ?_
 refine aT hm fun m1 w hm=>?_
 refine au 17 ?_
 refine cT rfl rfl rfl (h_copied TT m msg Z _ (hZ.ext hm.to) hz hml) fun v w hR=>?_
 obtain ⟨p_s,cap_s,g_s,b_s,rfl,ha_s,hmc⟩:=hR
 replace hm:=hm.Jt hmc
 refine aT hm fun m2 w hm=>?_
 refine st hm 0 fun w hm=>?_
 refine au 4 ?_
 refine cT rfl rfl rfl (h_finish 123 m2 msg _ _ (Jr.left (A:=[_,_]) hm.Jz) ⟨p_s,cap_s,g_s,b_s,rfl,ha_s.o⟩ hml) fun v w hR=>?_
 obtain ⟨rfl,Z9,hmc⟩:=hR
 replace hm:=(Mem.callZ (Z:=[_,_]) hm hmc).right
 refine Vi rfl rfl rfl rfl (sz23.trans (LM some (XQ (Pl.Qz _)).symm)) (Zl _) hm 0 rfl (by rw [Nat.ble_eq,XQ (Pl.Qz _)]; exact LP 32) fun w hm=>?_
 rw [upds_z32 (Pl.Qz _)] at hm
 refine au 3 ?_
 refine toR (fin Je rfl (.cell rfl (Ju (vs:=((Pl.sha msg).flatMap Jk)) ag23.h (hm.get (k:=0) rfl) (nthsB (Pl.Qz _))) .nil) .one ?_)
 exact ⟨rfl,hm.to⟩
theorem h_of(q:Option Addr)(cq:Nat)(ps:List SB)(w0:World)(hq:Rd w0 q (ps.flatMap encS))(hps:∀ s∈ps,Rd w0 s.p (s.bs.flatMap Jk))(hl:ps.length≤1000000000000)(hbl:(ps.flatMap (·.bs)).length≤1000000000000):C Tryz.prog 21 [.slice q ps.length cq] w0 fun v w'=>v=.agg ⟨(Pl.sha (ps.flatMap (·.bs))).flatMap Jk⟩∧Ext No w0 w':=by
 have hdl:=Pl.Qz (ps.flatMap (·.bs))
 obtain ⟨dg,hdg⟩:∃ d,Pl.sha (ps.flatMap (·.bs))=d:=⟨_,rfl⟩
 rw [hdg] at hdl ⊢
 refine C_o Tryz.func21 fun κ _ Je Jc hm=>?_
 refine au 2 ?_
 refine aT hm fun m1 w hm=>?_
 refine au 4 ?_
 refine cT rfl rfl rfl (h_new _) fun v w hR=>?_
 obtain ⟨m_h,Z_h,rfl,hz_h,hmc⟩:=hR
 replace hm:=Mem.XR hm hmc
 refine au 7 ?_
 refine cT rfl rfl rfl (h_write q cq ps 126 m_h [] Z_h _ (Jr.right (A:=[_]) hm.Jz) hz_h (LL _) (hq.Jj hm.to) (fun s hs=>(hps s hs).Jj hm.to) ((Mem.right (L:=[_]) hm).apartX hq (fun _ _ _ h=>h)) (fun s hs=>(Mem.right (L:=[_]) hm).apartX (hps s hs) (fun _ _ _ h=>h)) hl (by rw [LA]; omega)) fun v w hR=>?_
 obtain ⟨rfl,Z_h,hz_h,hmc⟩:=hR
 replace hm:=Mem.JQ (A:=[_]) hm hmc
 rw [L4] at hz_h
 refine au 5 ?_
 refine cA rfl rfl rfl (C.as (v:=.agg ⟨dg.flatMap Jk⟩) (h_sum 126 m_h _ Z_h _ (Jr.right (A:=[_]) hm.Jz) hz_h hbl) (by rw [hdg])) hm fun w hm=>?_
 refine Vi rfl rfl rfl rfl (sz23.trans (LM some (XQ hdl).symm)) (Zl _) hm 0 rfl (by rw [Nat.ble_eq,XQ hdl]; exact LP 32) fun w hm=>?_
 rw [upds_z32 hdl] at hm
 refine au 3 ?_
 refine toR (fin Je rfl (.cell rfl (Ju (vs:=((dg).flatMap Jk)) ag23.h (hm.get (k:=0) rfl) (nthsB hdl)) .nil) .one ?_)
 exact ⟨rfl,hm.to⟩
theorem ch_count(c:Pl.Cm)(p:Option Addr)(cap:Nat)(s:Int)(w0:World)(hc:Pl.ccheck c=0)(hs:Pl.I64 s)  : C Tryz.prog 184 [.agg ⟨cmV c p c.bs.length cap⟩,.int .i64 s] w0 fun v w'=>v=.int .i64 (Pl.Ji c s)∧Ext No w0 w':=by
 have hk:=Pl.Jl hc
 refine C_o Tryz.func184 fun κ _ Je Jc hm=>?_
 refine au 2 ?_
 refine bT hm fun m1 w hm=>?_
 refine au 10 ?_
 refine cd (fun hc0=>?_) fun hc0=>?_
 ·
  simp only [bA,bB,bC,bD,bE,bF,dT,dF] at hc0
  refine au 8 ?_
  exact ⟨by unfold Pl.Ji; rw [LI hc0],hm.to⟩
 ·
  simp only [bA,bB,bC,bD,bE,bF,dT,dF] at hc0
  refine au 5 ?_
  refine cA rfl rfl rfl (Vd _ _ _ _) hm fun w hm=>?_
  refine Ja rfl rfl (QF rfl fv32_1 rfl) ?_
  refine au 2 ?_
  refine Ja rfl rfl (Yy rfl rfl (by omega) (tdivw (by omega) (by omega) (by omega))) ?_
  refine Ja rfl rfl (J5 rfl rfl (Ql (by have:=Pl.J9 hc (s:=s) (by omega); omega) (by have:=Pl.J9 hc (s:=s) (by omega); omega))) ?_
  refine au 5 ?_
  exact ⟨by unfold Pl.Ji; rw [LH hc0],hm.to⟩
theorem r17_count(c:Pl.Cm)(p:Option Addr)(cap:Nat)(s:Int)(w0:World)(hc:Pl.ccheck c=0)(hs:Pl.I64 s)  : C Tryz.prog 55 [.agg ⟨cmV c p c.bs.length cap⟩,.int .i64 s] w0 fun v w'=>v=.int .i64 (Pl.Ji c s)∧Ext No w0 w':=by
 have hk:=Pl.Jl hc
 refine C_o Tryz.func55 fun κ _ Je Jc hm=>?_
 refine au 2 ?_
 refine bT hm fun m1 w hm=>?_
 refine au 10 ?_
 refine cd (fun hc0=>?_) fun hc0=>?_
 ·
  simp only [bA,bB,bC,bD,bE,bF,dT,dF] at hc0
  refine au 8 ?_
  exact ⟨by unfold Pl.Ji; rw [LI hc0],hm.to⟩
 ·
  simp only [bA,bB,bC,bD,bE,bF,dT,dF] at hc0
  refine au 5 ?_
  refine cA rfl rfl rfl (r4_len _ _ _ _) hm fun w hm=>?_
  refine au 2 ?_
  refine Ja rfl rfl (Yy rfl rfl (by omega) (tdivw (by omega) (by omega) (by omega))) ?_
  refine Ja rfl rfl (J5 rfl rfl (Ql (by have:=Pl.J9 hc (s:=s) (by omega); omega) (by have:=Pl.J9 hc (s:=s) (by omega); omega))) ?_
  refine au 5 ?_
  exact ⟨by unfold Pl.Ji; rw [LH hc0],hm.to⟩
theorem ch_down(c:Pl.Cm)(p:Option Addr)(cap:Nat)(w0:World)(hc:Pl.ccheck c=0):C Tryz.prog 282 [.agg ⟨cmV c p c.bs.length cap⟩] w0 fun v w'=>v=.bool (Pl.cdown c)∧Ext No w0 w':=by
 refine C_o Tryz.func282 fun κ _ Je Jc hm=>?_
 refine au 2 ?_
 refine bT hm fun m1 w hm=>?_
 refine au 6 ?_
 refine cA rfl rfl rfl (c_overlaps c p cap _ hc) hm fun w hm=>?_
 refine au 12 ?_
 exact ⟨rfl,hm.to⟩
theorem ch_piece1(c:Pl.Cm)(p:Option Addr)(cap:Nat)(s k:Int)(m1 m2 m3 m4 m5:Nat)(w0:World)(h1:w0.heap[m1]?=some (Blk.row 4 [.bool (Pl.cdown c)]).Jd)(h2:w0.heap[m2]?=some (Blk.row 3 [.int .i64 (Pl.Ji c s)]).Jd)(h3:w0.heap[m3]?=some (Blk.row 60 (cmV c p c.bs.length cap)).Jd)(h4:w0.heap[m4]?=some (Blk.row 32 [.int .i64 c.to,.int .i64 (Pl.clen c)]).Jd)(h5:w0.heap[m5]?=some (Blk.row 3 [.int .i64 s]).Jd)(hc:Pl.ccheck c=0)(hr:Rd w0 p (c.bs.flatMap Jk))(hle:c.bs.length≤cap)(hsp:cap≠0→∀ ad,p=some ad→ad.spot=none)(hl:c.bs.length≤140737488355328)(hs:Pl.I64 s)(hk:0≤k∧k<Pl.Ji c s):C Tryz.prog 283 [.int .i64 k,.pointer (some ⟨m1,0,none⟩),.pointer (some ⟨m2,0,none⟩),.pointer (some ⟨m3,0,none⟩),.pointer (some ⟨m4,0,none⟩),.pointer (some ⟨m5,0,none⟩)] w0 fun v w'=>∃ p n cap g bb,v=.agg ⟨cmV (Pl.QW c s k) p n cap⟩∧Acc 5 1 p n cap ((Pl.QW c s k).bs.flatMap Jk) g bb∧Mem w0 w' No [(g,bb)]:=by
 have hb:=Pl.Xj hc hk
 have hcn:=Pl.Vc (s:=s) hc
 have hkk:=Pl.Jl hc
 have hcd:Pl.QW c s k=Pl.Qu c (c.to+Pl.QD c s k*s) (min s (Pl.clen c-Pl.QD c s k*s)):=rfl
 refine C_o Tryz.func283 fun κ _ Je Jc hm=>?_
 refine au 2 ?_
 refine aT hm fun m1 w hm=>?_
 refine au 8 ?_
 refine cd (fun hc0=>?_) fun hc0=>?_
 ·
  have hix:Pl.QD c s k=Pl.Ji c s-1-k:=by simp [Pl.QD,hc0]
  rw [hix] at hb hcd
  refine au 9 ?_
  refine JS (.pure 0 (.pure 1 (.pure 2 (.pure 3 (.pure 4 (.pure 5 (.pure 6 (.pure 7 (.pure 8 (.pure 10 (.pure 11 (.pure 13 (.pure 14 (.pure 15 (.act2 9 (.pure 12 (.pure 16 (.pure 17 (.pure 18 (.act2 19 (.pure 20 (.pure 21 (.pure 22 (.act 23 (.cut (.act 24 (.pure 25 .done))))))) 23 (.act 19 (.pure 20 (.pure 21 (.pure 22 (.cut (.act 24 (.pure 25 .done)))))))))))) 23 (.act 9 (.pure 12 (.pure 16 (.pure 17 (.pure 18 (.act 19 (.pure 20 (.pure 21 (.pure 22 (.cut (.act 24 (.pure 25 .done))))))))))))))))))))))))))) No mix (by kernel_rfl) hm fun w hw hm0 hh=>?_
  have hm:=hm0
  refine Ja rfl rfl (Jm (s:=5) (vs:=[_,_,_,_,_]) rfl ag60.h (fun u hu=>((hm0.to.trans hu).same _ (Lb.1 h3).1 id).trans h3) rfl) ?_
  refine au 7 ?_
  refine Ja rfl rfl (Jm (s:=2) (vs:=[_,_]) rfl ag32.h (fun u hu=>((hm0.to.trans hu).same _ (Lb.1 h4).1 id).trans h4) rfl) ?_
  refine au 5 ?_
  refine QN ?_ ?_
  ·
   refine cB rfl rfl rfl (QC _ _ _ (by omega)) hm hh fun w hm hh=>?_
   refine Ja rfl rfl (QR rfl rfl ((Ql (by omega) (by omega)).trans (by omega:c.to+Pl.clen c-c.to=Pl.clen c))) ?_
   refine au 3 ?_
   refine QN ?_ ?_
   ·
    refine ca rfl rfl rfl (c_part c p cap _ _ _ hc (hr.Jj hm.to) hle hsp hl (by omega)) fun v w hR=>?_
    obtain ⟨p_s,n_s,cap_s,g_s,b_s,rfl,ha_s,hmc⟩:=hR
    refine ⟨hh.ext hmc.to,?_⟩
    replace hh:=hh.ext hmc.to
    replace hm:=hm.Jt hmc
    obtain rfl:=ha_s.J0
    refine au 3 ?_
    refine al hm hh fun m2 w hg_m2 hm hh=>?_
    refine au 1 ?_
    refine st hm 0 fun w hm=>?_
    refine au 6 ?_
    refine st hm 2 fun w hm=>?_
    refine au 4 ?_
    exact ⟨p_s,(Pl.QW c s k).bs.length,cap_s,g_s,b_s,by rw [hcd]; rfl,by rw [hcd]; exact ha_s,(hm.pick [1] rfl)⟩
   ·
    refine al hm hh fun m2 w hg_m2 hm hh=>?_
    refine ca rfl rfl rfl (c_part c p cap _ _ _ hc (hr.Jj hm.to) hle hsp hl (by omega)) fun v w hR=>?_
    obtain ⟨p_s,n_s,cap_s,g_s,b_s,rfl,ha_s,hmc⟩:=hR
    refine ⟨hh.ext hmc.to,?_⟩
    replace hh:=hh.ext hmc.to
    replace hm:=hm.Jt hmc
    obtain rfl:=ha_s.J0
    refine au 4 ?_
    refine st hm 1 fun w hm=>?_
    refine au 6 ?_
    refine st hm 2 fun w hm=>?_
    refine au 4 ?_
    exact ⟨p_s,(Pl.QW c s k).bs.length,cap_s,g_s,b_s,by rw [hcd]; rfl,by rw [hcd]; exact ha_s,(hm.pick [0] rfl)⟩
  ·
   refine al hm hh fun m2 w hg_m2 hm hh=>?_
   refine cB rfl rfl rfl (QC _ _ _ (by omega)) hm hh fun w hm hh=>?_
   refine Ja rfl rfl (QR rfl rfl ((Ql (by omega) (by omega)).trans (by omega:c.to+Pl.clen c-c.to=Pl.clen c))) ?_
   refine au 3 ?_
   refine ca rfl rfl rfl (c_part c p cap _ _ _ hc (hr.Jj hm.to) hle hsp hl (by omega)) fun v w hR=>?_
   obtain ⟨p_s,n_s,cap_s,g_s,b_s,rfl,ha_s,hmc⟩:=hR
   refine ⟨hh.ext hmc.to,?_⟩
   replace hh:=hh.ext hmc.to
   replace hm:=hm.Jt hmc
   obtain rfl:=ha_s.J0
   refine au 4 ?_
   refine st hm 1 fun w hm=>?_
   refine au 6 ?_
   refine st hm 2 fun w hm=>?_
   refine au 4 ?_
   exact ⟨p_s,(Pl.QW c s k).bs.length,cap_s,g_s,b_s,by rw [hcd]; rfl,by rw [hcd]; exact ha_s,(hm.pick [0] rfl)⟩
 ·
  have hix:Pl.QD c s k=k:=by simp [Pl.QD,hc0]
  rw [hix] at hb hcd
  refine au 3 ?_
  refine JS (.pure 0 (.pure 1 (.pure 2 (.pure 3 (.pure 4 (.pure 5 (.pure 6 (.pure 7 (.pure 8 (.pure 10 (.pure 11 (.pure 13 (.pure 14 (.pure 15 (.act2 9 (.pure 12 (.pure 16 (.pure 17 (.pure 18 (.act2 19 (.pure 20 (.pure 21 (.pure 22 (.act 23 (.cut (.act 24 (.pure 25 .done))))))) 23 (.act 19 (.pure 20 (.pure 21 (.pure 22 (.cut (.act 24 (.pure 25 .done)))))))))))) 23 (.act 9 (.pure 12 (.pure 16 (.pure 17 (.pure 18 (.act 19 (.pure 20 (.pure 21 (.pure 22 (.cut (.act 24 (.pure 25 .done))))))))))))))))))))))))))) No mix (by kernel_rfl) hm fun w hw hm0 hh=>?_
  have hm:=hm0
  refine Ja rfl rfl (Jm (s:=5) (vs:=[_,_,_,_,_]) rfl ag60.h (fun u hu=>((hm0.to.trans hu).same _ (Lb.1 h3).1 id).trans h3) rfl) ?_
  refine au 7 ?_
  refine Ja rfl rfl (Jm (s:=2) (vs:=[_,_]) rfl ag32.h (fun u hu=>((hm0.to.trans hu).same _ (Lb.1 h4).1 id).trans h4) rfl) ?_
  refine au 5 ?_
  refine QN ?_ ?_
  ·
   refine cB rfl rfl rfl (QC _ _ _ (by omega)) hm hh fun w hm hh=>?_
   refine Ja rfl rfl (QR rfl rfl ((Ql (by omega) (by omega)).trans (by omega:c.to+Pl.clen c-c.to=Pl.clen c))) ?_
   refine au 3 ?_
   refine QN ?_ ?_
   ·
    refine ca rfl rfl rfl (c_part c p cap _ _ _ hc (hr.Jj hm.to) hle hsp hl (by omega)) fun v w hR=>?_
    obtain ⟨p_s,n_s,cap_s,g_s,b_s,rfl,ha_s,hmc⟩:=hR
    refine ⟨hh.ext hmc.to,?_⟩
    replace hh:=hh.ext hmc.to
    replace hm:=hm.Jt hmc
    obtain rfl:=ha_s.J0
    refine au 3 ?_
    refine al hm hh fun m2 w hg_m2 hm hh=>?_
    refine au 1 ?_
    refine st hm 0 fun w hm=>?_
    refine au 6 ?_
    refine st hm 2 fun w hm=>?_
    refine au 4 ?_
    exact ⟨p_s,(Pl.QW c s k).bs.length,cap_s,g_s,b_s,by rw [hcd]; rfl,by rw [hcd]; exact ha_s,(hm.pick [1] rfl)⟩
   ·
    refine al hm hh fun m2 w hg_m2 hm hh=>?_
    refine ca rfl rfl rfl (c_part c p cap _ _ _ hc (hr.Jj hm.to) hle hsp hl (by omega)) fun v w hR=>?_
    obtain ⟨p_s,n_s,cap_s,g_s,b_s,rfl,ha_s,hmc⟩:=hR
    refine ⟨hh.ext hmc.to,?_⟩
    replace hh:=hh.ext hmc.to
    replace hm:=hm.Jt hmc
    obtain rfl:=ha_s.J0
    refine au 4 ?_
    refine st hm 1 fun w hm=>?_
    refine au 6 ?_
    refine st hm 2 fun w hm=>?_
    refine au 4 ?_
    exact ⟨p_s,(Pl.QW c s k).bs.length,cap_s,g_s,b_s,by rw [hcd]; rfl,by rw [hcd]; exact ha_s,(hm.pick [0] rfl)⟩
  ·
   refine al hm hh fun m2 w hg_m2 hm hh=>?_
   refine cB rfl rfl rfl (QC _ _ _ (by omega)) hm hh fun w hm hh=>?_
   refine Ja rfl rfl (QR rfl rfl ((Ql (by omega) (by omega)).trans (by omega:c.to+Pl.clen c-c.to=Pl.clen c))) ?_
   refine au 3 ?_
   refine ca rfl rfl rfl (c_part c p cap _ _ _ hc (hr.Jj hm.to) hle hsp hl (by omega)) fun v w hR=>?_
   obtain ⟨p_s,n_s,cap_s,g_s,b_s,rfl,ha_s,hmc⟩:=hR
   refine ⟨hh.ext hmc.to,?_⟩
   replace hh:=hh.ext hmc.to
   replace hm:=hm.Jt hmc
   obtain rfl:=ha_s.J0
   refine au 4 ?_
   refine st hm 1 fun w hm=>?_
   refine au 6 ?_
   refine st hm 2 fun w hm=>?_
   refine au 4 ?_
   exact ⟨p_s,(Pl.QW c s k).bs.length,cap_s,g_s,b_s,by rw [hcd]; rfl,by rw [hcd]; exact ha_s,(hm.pick [0] rfl)⟩
theorem ch_piece(c:Pl.Cm)(p:Option Addr)(cap:Nat)(s:Int)(w0:World)(hc:Pl.ccheck c=0)(hs:Pl.I64 s)  : C Tryz.prog 261 [.agg ⟨cmV c p c.bs.length cap⟩,.int .i64 s] w0 fun v w'=>∃ m1 m2 m3 m4 m5,v=.func (.func 283) #[] ⟨[.pointer (some ⟨m1,0,none⟩),.pointer (some ⟨m2,0,none⟩),.pointer (some ⟨m3,0,none⟩),.pointer (some ⟨m4,0,none⟩),.pointer (some ⟨m5,0,none⟩)]⟩∧Mem w0 w' No [(m1,.row 4 [.bool (Pl.cdown c)]),(m2,.row 3 [.int .i64 (Pl.Ji c s)]),(m4,.row 32 [.int .i64 c.to,.int .i64 (Pl.clen c)]),(m5,.row 3 [.int .i64 s]),(m3,.row 60 (cmV c p c.bs.length cap))]:=by
 refine C_o Tryz.func261 fun κ _ Je Jc hm=>?_
 refine au 2 ?_
 refine bT hm fun m1 w hm=>?_
 refine bT hm fun m2 w hm=>?_
 refine au 6 ?_
 refine cA rfl rfl rfl (Vd _ _ _ _) hm fun w hm=>?_
 refine aT hm fun m3 w hm=>?_
 refine st hm 0 fun w hm=>?_
 refine au 6 ?_
 refine cA rfl rfl rfl (ch_count c p cap s _ hc hs) hm fun w hm=>?_
 refine aT hm fun m4 w hm=>?_
 refine st hm 0 fun w hm=>?_
 refine au 5 ?_
 refine cA rfl rfl rfl (ch_down c p cap _ hc) hm fun w hm=>?_
 refine aT hm fun m5 w hm=>?_
 refine st hm 0 fun w hm=>?_
 refine au 10 ?_
 exact ⟨_,_,_,_,_,rfl,hm⟩
theorem ch_at(c:Pl.Cm)(p:Option Addr)(cap:Nat)(s k:Int)(w0:World)(hc:Pl.ccheck c=0)(hr:Rd w0 p (c.bs.flatMap Jk))(hle:c.bs.length≤cap)(hsp:cap≠0→∀ ad,p=some ad→ad.spot=none)(hl:c.bs.length≤140737488355328)(hs:Pl.I64 s)(hk:Pl.I64 k):C Tryz.prog 231 [.agg ⟨cmV c p c.bs.length cap⟩,.int .i64 s,.int .i64 k] w0 fun v w'=>∃ p n cap g bb,v=.tuple ⟨[.agg ⟨cmV (if 0≤k∧k<Pl.Ji c s then Pl.QW c s k else Pl.cm0) p n cap⟩,.bool (decide (0≤k∧k<Pl.Ji c s))]⟩∧Acc 5 1 p n cap ((if 0≤k∧k<Pl.Ji c s then Pl.QW c s k else Pl.cm0).bs.flatMap Jk) g bb∧Mem w0 w' No [(g,bb)]:=by
 refine C_o Tryz.func231 fun κ _ Je Jc hm=>?_
 refine au 2 ?_
 refine bT hm fun m1 w hm=>?_
 refine aT hm fun m2 w hm=>?_
 refine au 5 ?_
 by_cases hk0:k<0
 ·
  refine au 2 ?_
  refine Ja rfl rfl (JA (c:=true) (VO rfl rfl) (by simpa using hk0)) ?_
  refine au 13 ?_
  refine st hm 0 fun w hm=>?_
  refine au 6 ?_
  have hno:¬ (0≤k∧k<Pl.Ji c s):=by omega
  exact ⟨none,0,0,0,.gap,by rw [LH hno,LN hno]; rfl,by rw [LH hno]; exact .nil _ _ _ _,(hm.drop (List.nil_sublist _)).JP⟩
 ·
  refine au 2 ?_
  refine Ja rfl rfl (JA (c:=false) (VO rfl rfl) (by simpa using hk0)) ?_
  refine au 4 ?_
  refine cA rfl rfl rfl (ch_count c p cap s _ hc hs) hm fun w hm=>?_
  refine au 4 ?_
  refine cd (fun hc0=>?_) fun hc0=>?_
  ·
   simp only [dT] at hc0
   refine au 3 ?_
   refine st hm 0 fun w hm=>?_
   refine au 6 ?_
   have hno:¬ (0≤k∧k<Pl.Ji c s):=by omega
   exact ⟨none,0,0,0,.gap,by rw [LH hno,LN hno]; rfl,by rw [LH hno]; exact .nil _ _ _ _,(hm.drop (List.nil_sublist _)).JP⟩
  ·
   simp only [dF] at hc0
   have hin:0≤k∧k<Pl.Ji c s:=by omega
   refine au 6 ?_
   refine cT rfl rfl rfl (ch_piece c p cap s _ hc hs) fun v w hR=>?_
   obtain ⟨q1,q2,q3,q4,q5,rfl,hmc⟩:=hR
   replace hm:=hm.Jt hmc
   refine au 1 ?_
   refine Qf rfl rfl rfl rfl go283 (ch_piece1 c p cap s k q1 q2 q3 q4 q5 _ (hm.get (k:=0) rfl) (hm.get (k:=1) rfl) (hm.get (k:=4) rfl) (hm.get (k:=2) rfl) (hm.get (k:=3) rfl) hc (hr.Jj hm.to) hle hsp hl hs hin) fun v w hR=>?_
   obtain ⟨p_s,n_s,cap_s,g_s,b_s,rfl,ha_s,hmc⟩:=hR
   refine ⟨trivial,?_⟩
   replace hm:=hm.Jt hmc
   obtain rfl:=ha_s.J0
   refine st hm 6 fun w hm=>?_
   refine Ja rfl rfl (J4 rfl) ?_
   refine Qc ?_
   refine QV ?_
   refine HW_ret rfl ?_
   refine toR (fin Je rfl (.cell rfl (Ju (vs:=[_,_,_,_,_]) ag60.h (hm.get (k:=6) rfl) rfl) (.tmp rfl .nil)) .more ?_)
   exact ⟨p_s,(Pl.QW c s k).bs.length,cap_s,g_s,b_s,by rw [LI hin,LQ hin]; rfl,by rw [LI hin]; exact ha_s,(hm.pick [0] rfl)⟩
theorem search(n:Nat)(fi:FuncId)(l2:List Value)(pr:Nat→Bool)(w0:World)(hn:n≤4611686018427387903)(hg:JH Tryz.prog fi=true)(hf:∀ (k:Nat) w1,k<n→Ext No w0 w1→C Tryz.prog fi (.int .i64 k::l2) w1 fun v w2=>v=.bool (pr k)∧Ext No w1 w2)(hmono:∀ j k,j≤k→pr j=true→pr k=true):C Tryz.prog 241 [.int .i64 n,.func (.func fi) #[] ⟨l2⟩] w0 fun v w'=>∃ r:Nat,v=.int .i64 r∧r≤n∧(∀ j,j<r→pr j=false)∧(r<n→pr r=true)∧Ext No w0 w':=by
 refine C_o Tryz.func241 fun κ _ Je Jc hm=>?_
 refine au 14 ?_
 refine Jg (ι:=Nat×Nat) rfl (ks:=[1,4]) (.cons rfl (.cons rfl .nil)) (fun x=>[(5,.int .i64 x.1),(6,.int .i64 x.2)]) (fun x w=>Mem w0 w No []∧x.1≤x.2∧x.2≤n∧(∀ j,j<x.1→pr j=false)∧(x.2<n→pr x.2=true)) (fun x=>x.2-x.1) (0,n) (⟨hm,LL _,LP _,fun _ h=>absurd h (Nat.not_lt_zero _),fun h=>absurd h (Nat.lt_irrefl _)⟩) ⟨rfl,rfl,trivial⟩ (fun x w hM=>?_)
 obtain ⟨hm,hij,hjn,hlo,hhi⟩:=hM
 refine au 8 ?_
 refine cd (fun hc0=>?_) fun hc0=>?_
 ·
  simp only [dT] at hc0
  have hmid:x.1≤(x.1+x.2)/2∧(x.1+x.2)/2<x.2:=by omega
  obtain ⟨h,hh2⟩:∃ h,(x.1+x.2)/2=h:=⟨_,rfl⟩
  rw [hh2] at hmid
  refine au 8 ?_
  refine Ja rfl rfl (JX rfl is3 it151 (u64w (by omega) (by omega))) ?_
  refine Ja rfl rfl (V1 rfl rfl (by omega) ((half64 (by omega)).trans (by rw [hh2]))) ?_
  refine Ja rfl rfl (JX rfl is151 it3 (Ql (by omega) (by omega))) ?_
  refine au 7 ?_
  refine Qf rfl rfl rfl rfl hg (hf h _ (by omega) hm.to) fun v w hR=>?_
  obtain ⟨rfl,hE⟩:=hR
  refine ⟨trivial,?_⟩
  replace hm:=hm.ext hE
  refine au 3 ?_
  refine cd (fun hc1=>?_) fun hc1=>?_
  ·
   simp only [bE] at hc1
   refine au 6 ?_
   first | exact next (h+1,x.2) (by simp only; omega) ⟨hm,by simp only; omega,hjn,fun j hj=>Bool.eq_false_iff.2 fun ht=>by (rw [hmono j h (by simp only at hj; omega) ht] at hc1; cases hc1),hhi⟩ ⟨nx h,rfl,rfl,rfl,trivial⟩ | exact next (x.1,h) (by simp only; omega) ⟨hm,by simp only; omega,by simp only; omega,hlo,fun _=>hc1⟩ ⟨rfl,rfl,rfl,rfl,trivial⟩
  ·
   simp only [bF] at hc1
   refine au 5 ?_
   first | exact next (h+1,x.2) (by simp only; omega) ⟨hm,by simp only; omega,hjn,fun j hj=>Bool.eq_false_iff.2 fun ht=>by (rw [hmono j h (by simp only at hj; omega) ht] at hc1; cases hc1),hhi⟩ ⟨nx h,rfl,rfl,rfl,trivial⟩ | exact next (x.1,h) (by simp only; omega) ⟨hm,by simp only; omega,by simp only; omega,hlo,fun _=>hc1⟩ ⟨rfl,rfl,rfl,rfl,trivial⟩
 ·
  simp only [dF] at hc0
  refine au 13 ?_
  exact ⟨x.1,rfl,by omega,hlo,fun h=>by rw [show x.1=x.2 by omega]; exact hhi (by omega),hm.to⟩
theorem find1(k:Nat)(i:Int)(m1 m2:Nat)(s:Int)(pf:Option Addr)(cf:Nat)(pb:Option Addr)(cb:Nat)(cs:List Pl.Cm)(w0:World)(hF:Rd w0 pf ((J2 s cs).flatMap encI))(hfw:Pl.ZF s cs)(hmx:cs.length≤1000000∧Pl.first s cs cs.length≤4611686018427387903)(hk:k<cs.length)(h1:w0.heap[m1]?=some (Blk.row 284 (nmV s pf (J2 s cs).length cf pb cb)).Jd)(h2:w0.heap[m2]?=some (Blk.row 3 [.int .i64 i]).Jd):C Tryz.prog 260 [.int .i64 k,.pointer (some ⟨m1,0,none⟩),.pointer (some ⟨m2,0,none⟩)] w0 fun v w'=>v=.bool (decide (i<Pl.first s cs (k+1)))∧Ext No w0 w':=by
 have hfl:=Xx s cs
 have hi:=ZD (s:=s) (cs:=cs) (k:=k+1) (by omega)
 obtain ⟨qb,qo,rfl⟩:=hF.atI Jq (by decide) hi
 refine C_o Tryz.func260 fun κ _ Je Jc hm=>?_
 refine au 6 ?_
 refine dw [0,3,6,9,12,15,18,21,24] hm fun w hw hm0 hh hm=>?_
 refine au 5 ?_
 refine Ja rfl rfl (J3 rfl sc3.h (hF.Jj hm0.to).nd Jq hi rfl) ?_
 refine au 7 ?_
 exact ⟨by simp,hm.to⟩
theorem nm_find(i:Int)(s:Int)(pf:Option Addr)(cf:Nat)(pb:Option Addr)(cb:Nat)(cs:List Pl.Cm)(w0:World)(hF:Rd w0 pf ((J2 s cs).flatMap encI))(hfw:Pl.ZF s cs)(hmx:cs.length≤1000000∧Pl.first s cs cs.length≤4611686018427387903)(h0:0≤i)(h1:i<Pl.first s cs cs.length):C Tryz.prog 230 [.agg ⟨nmV s pf (J2 s cs).length cf pb cb⟩,.int .i64 i] w0 fun v w'=>∃ k:Nat,v=.int .i64 k∧(k<cs.length∧Pl.first s cs k≤i∧i<Pl.first s cs (k+1))∧Ext No w0 w':=by
 have hfl:=Xx s cs
 refine C_o Tryz.func230 fun κ _ Je Jc hm=>?_
 refine au 2 ?_
 refine bT hm fun m1 w hm=>?_
 refine bT hm fun m2 w hm=>?_
 refine au 8 ?_
 refine Ja rfl rfl (QR rfl rfl ((Ql (by omega) (by omega)).trans (by omega:(((J2 s cs).length:Nat):Int)-1=(cs.length:Nat)))) ?_
 refine au 1 ?_
 refine cT rfl rfl rfl (search cs.length _ _ (fun k=>decide (i<Pl.first s cs (k+1))) _ (by omega) go260 (fun k w1 hk hx=>find1 k i m1 m2 s pf cf pb cb cs w1 ((hF.Jj hm.to).Jj hx) hfw hmx hk ((hx.same _ (hm.lt (p:=(m1,_)) (Js (L:=[_,_]) (k:=1) rfl)) id).trans (hm.get (k:=1) rfl)) ((hx.same _ (hm.lt (p:=(m2,_)) (Js (L:=[_,_]) (k:=0) rfl)) id).trans (hm.get (k:=0) rfl))) (find_mono hfw i)) fun v w hR=>?_
 obtain ⟨r_,rfl,hr1,hr2,hr3,hE⟩:=hR
 replace hm:=hm.ext hE
 refine au 5 ?_
 exact ⟨r_,rfl,find_post h0 h1 hr1 hr2 hr3,hm.to⟩
theorem nm_steps(s:Int)(pf:Option Addr)(cf:Nat)(pb:Option Addr)(cb:Nat)(cs:List Pl.Cm)(w0:World)(hF:Rd w0 pf ((J2 s cs).flatMap encI))(hfw:Pl.ZF s cs)(hmx:cs.length≤1000000∧Pl.first s cs cs.length≤4611686018427387903):C Tryz.prog 186 [.agg ⟨nmV s pf (J2 s cs).length cf pb cb⟩] w0 fun v w'=>v=.int .i64 (Pl.first s cs cs.length)∧Ext No w0 w':=by
 have hfl:=Xx s cs
 have hi:=ZD (s:=s) (cs:=cs) (k:=cs.length) (by omega)
 obtain ⟨qb,qo,rfl⟩:=hF.atI Jq (by decide) hi
 refine C_o Tryz.func186 fun κ _ Je Jc hm=>?_
 refine au 2 ?_
 refine bT hm fun m1 w hm=>?_
 refine au 10 ?_
 refine Ja rfl rfl (QR rfl rfl ((Ql (by omega) (by omega)).trans (by omega:(((J2 s cs).length:Nat):Int)-1=(cs.length:Nat)))) ?_
 refine au 1 ?_
 refine Ja rfl rfl (J3 rfl sc3.h (hF.Jj hm.to).nt Jq hi rfl) ?_
 refine au 5 ?_
 exact ⟨rfl,hm.to⟩
theorem p_len(m:Nat)(s:Int)(pf:Option Addr)(cf:Nat)(pb:Option Addr)(cb:Nat)(pl:Option Addr)(cl:Nat)(xs:List CmdV)(w0:World)(hP:w0.heap[m]?=some (Blk.row 286 (plV s pf (J2 s (xs.map CmdV.cm)).length cf pb cb pl xs.length cl)).Jd)(hF:Rd w0 pf ((J2 s (xs.map CmdV.cm)).flatMap encI))(hB:Rd w0 pb ((beforeL (xs.map CmdV.cm)).flatMap encI))(hL:Rd w0 pl (xs.flatMap JM))(hfw:Pl.ZF s (xs.map CmdV.cm))(hmx:(xs.map CmdV.cm).length≤1000000∧Pl.first s (xs.map CmdV.cm) (xs.map CmdV.cm).length≤4611686018427387903):C Tryz.prog 149 [.pointer (some ⟨m,0,none⟩)] w0 fun v w'=>v=.int .i64 (Pl.first s (xs.map CmdV.cm) (xs.map CmdV.cm).length)∧Ext No w0 w':=by
 refine C_o Tryz.func149 fun κ _ Je Jc hm=>?_
 refine au 20 ?_
 refine Ja rfl rfl (Jm (s:=3) (vs:=[_,_,_]) rfl ag284.h (Qo ((hm.to.same _ (Lb.1 hP).1 id).trans hP)) rfl) ?_
 refine cA rfl rfl rfl (nm_steps s pf cf pb cb (xs.map CmdV.cm) _ (hF.Jj hm.to) hfw hmx) hm fun w hm=>?_
 refine au 5 ?_
 exact ⟨rfl,hm.to⟩
theorem p_at(i:Int)(m:Nat)(s:Int)(pf:Option Addr)(cf:Nat)(pb:Option Addr)(cb:Nat)(pl:Option Addr)(cl:Nat)(xs:List CmdV)(w0:World)(hP:w0.heap[m]?=some (Blk.row 286 (plV s pf (J2 s (xs.map CmdV.cm)).length cf pb cb pl xs.length cl)).Jd)(hF:Rd w0 pf ((J2 s (xs.map CmdV.cm)).flatMap encI))(hB:Rd w0 pb ((beforeL (xs.map CmdV.cm)).flatMap encI))(hL:Rd w0 pl (xs.flatMap JM))(hfw:Pl.ZF s (xs.map CmdV.cm))(hmx:(xs.map CmdV.cm).length≤1000000∧Pl.first s (xs.map CmdV.cm) (xs.map CmdV.cm).length≤4611686018427387903)(hD:∀ x∈xs,x.d.okN w0∧x.d.bs.length≤140737488355328)(hs:Pl.I64 s∧1≤s)(hi64:Pl.I64 i):C Tryz.prog 185 [.pointer (some ⟨m,0,none⟩),.int .i64 i] w0 fun v w'=>∃ (ix k:Int) (d:Pl.Cm) (q:Option Addr) (n cp g:Nat) (bb:Blk),v=.tuple ⟨[.agg ⟨.int .i64 ix::.int .i64 k::cmV d q n cp⟩,.bool (decide (0≤i∧i<Pl.first s (xs.map CmdV.cm) (xs.map CmdV.cm).length))]⟩∧Acc 5 1 q n cp (d.bs.flatMap Jk) g bb∧Mem w0 w' No [(g,bb)]∧(0≤i∧i<Pl.first s (xs.map CmdV.cm) (xs.map CmdV.cm).length→ix=i∧0≤k∧(Pl.steps s 0 (xs.map CmdV.cm))[i.toNat]?=some (k.toNat,d))∧(¬ (0≤i∧i<Pl.first s (xs.map CmdV.cm) (xs.map CmdV.cm).length)→ix=0∧k=0∧d=Pl.cm0):=by
 refine C_o Tryz.func185 fun κ _ Je Jc hm=>?_
 refine au 2 ?_
 refine aT hm fun m1 w hm=>?_
 refine au 5 ?_
 by_cases h0:i<0
 ·
  have hbad:¬ (0≤i∧i<Pl.first s (xs.map CmdV.cm) (xs.map CmdV.cm).length):=by omega
  refine au 3 ?_
  refine Ja rfl rfl (JA (c:=true) (Jx rfl) (LQ h0)) ?_
  refine au 11 ?_
  refine st hm 0 fun w hm=>?_
  refine au 6 ?_
  exact ⟨0,0,Pl.cm0,none,0,0,0,.gap,by rw [LN hbad]; rfl,.nil _ _ _ _,(hm.drop (List.nil_sublist _)).JP,fun h=>absurd h hbad,fun _=>⟨rfl,rfl,rfl⟩⟩
 ·
  refine au 3 ?_
  refine Ja rfl rfl (JA (c:=false) (Jx rfl) (LN h0)) ?_
  refine au 2 ?_
  refine cA rfl rfl rfl (p_len m s pf cf pb cb pl cl xs _ ((hm.to.same _ (Lb.1 hP).1 id).trans hP) (hF.Jj hm.to) (hB.Jj hm.to) (hL.Jj hm.to) hfw hmx) hm fun w hm=>?_
  refine au 4 ?_
  refine cd (fun hc0=>?_) fun hc0=>?_
  ·
   simp only [dT] at hc0
   have hbad:¬ (0≤i∧i<Pl.first s (xs.map CmdV.cm) (xs.map CmdV.cm).length):=by omega
   refine au 3 ?_
   refine st hm 0 fun w hm=>?_
   refine au 6 ?_
   exact ⟨0,0,Pl.cm0,none,0,0,0,.gap,by rw [LN hbad]; rfl,.nil _ _ _ _,(hm.drop (List.nil_sublist _)).JP,fun h=>absurd h hbad,fun _=>⟨rfl,rfl,rfl⟩⟩
  ·
   simp only [dF] at hc0
   have hgood:0≤i∧i<Pl.first s (xs.map CmdV.cm) (xs.map CmdV.cm).length:=by omega
   refine au 7 ?_
   refine Ja rfl rfl (Jm (s:=3) (vs:=[_,_,_]) rfl ag284.h (Qo ((hm.to.same _ (Lb.1 hP).1 id).trans hP)) rfl) ?_
   refine au 1 ?_
   refine cT rfl rfl rfl (nm_find i s pf cf pb cb (xs.map CmdV.cm) _ (hF.Jj hm.to) hfw hmx hgood.1 hgood.2) fun v w hR=>?_
   obtain ⟨k_,rfl,⟨hk1,hk2,hk3⟩,hE⟩:=hR
   replace hm:=hm.ext hE
   rw [Lj] at hk1
   obtain ⟨c,hi⟩:∃ y_,xs[k_]?=some y_:=⟨_,La hk1⟩
   have hcm:(xs.map CmdV.cm)[k_]?=some c.cm:=by rw [Lt,hi]; rfl
   have hfn:=Pl.Yo s hcm
   have hif:=ZD (s:=s) (cs:=(xs.map CmdV.cm)) (k:=k_) (by rw [Lj]; omega)
   obtain ⟨hcd,hcb⟩:=hD c (Ld hi)
   have hcc:=hfw c.cm (Ld hcm)
   have hfl:=Xx s (xs.map CmdV.cm)
   rw [Lj] at hfl
   have hnn:=Pl.VG (s:=s) k_ hfw
   obtain ⟨qb,qo,rfl⟩:=hL.atI Jf (by decide) hi
   obtain ⟨b2,o2,rfl⟩:=hF.atI Jq (by decide) hif
   have hin:0≤i-Pl.first s (xs.map CmdV.cm) k_∧i-Pl.first s (xs.map CmdV.cm) k_<Pl.Ji c.cm s:=by omega
   refine au 4 ?_
   refine JS (.pure 0 (.pure 1 (.pure 2 (.pure 3 (.pure 4 (.pure 5 (.pure 6 (.pure 7 (.pure 8 (.pure 9 (.pure 10 (.pure 11 (.pure 12 (.pure 13 (.pure 14 (.pure 15 (.pure 16 (.pure 17 (.pure 18 (.pure 19 (.pure 20 (.pure 21 (.act2 22 (.pure 23 (.pure 24 (.pure 25 (.act 26 (.cut (.act 27 (.pure 28 .done))))))) 26 (.act 22 (.pure 23 (.pure 24 (.pure 25 (.cut (.act 27 (.pure 28 .done)))))))))))))))))))))))))))))) No mix (by kernel_rfl) hm fun w hw hm0 hh=>?_
   have hm:=hm0
   refine au 6 ?_
   refine Ja rfl rfl (JU rfl ag60.h (hL.Jj hm0.to).nd Jf hi) ?_
   refine au 13 ?_
   refine Ja rfl rfl (J3 rfl sc3.h (hF.Jj hm0.to).nd Jq hif rfl) ?_
   refine au 1 ?_
   refine QN ?_ ?_
   ·
    refine ca rfl rfl rfl (ch_at c.cm c.d.p c.d.cap s _ _ hcc.1 (hcd.rd.Jj hm.to) hcd.le hcd.spot hcb hs.1 (by simp only [Pl.I64]; omega)) fun v w hR=>?_
    rw [LI hin,LQ hin] at hR
    obtain ⟨p_s,n_s,cap_s,g_s,b_s,rfl,ha_s,hmc⟩:=hR
    refine ⟨hh.ext hmc.to,?_⟩
    replace hh:=hh.ext hmc.to
    replace hm:=hm.Jt hmc
    obtain rfl:=ha_s.J0
    refine au 3 ?_
    refine al hm hh fun m2 w hg_m2 hm hh=>?_
    refine au 1 ?_
    refine st hm 0 fun w hm=>?_
    refine au 10 ?_
    refine st hm 2 fun w hm=>?_
    refine au 5 ?_
    exact ⟨i,k_,Pl.QW c.cm s (i-Pl.first s (xs.map CmdV.cm) k_),p_s,_,cap_s,g_s,b_s,by rw [LQ hgood]; rfl,ha_s,(hm.pick [1] rfl),fun _=>⟨rfl,by omega,by (have h9:=Pl.steps_get (b:=0) (i:=i.toNat) hfw hcm (by omega) (by omega)); rw [LV,show ((i.toNat:Nat):Int)=i by omega] at h9; exact h9⟩,fun h=>absurd hgood h⟩
   ·
    refine al hm hh fun m2 w hg_m2 hm hh=>?_
    refine ca rfl rfl rfl (ch_at c.cm c.d.p c.d.cap s _ _ hcc.1 (hcd.rd.Jj hm.to) hcd.le hcd.spot hcb hs.1 (by simp only [Pl.I64]; omega)) fun v w hR=>?_
    rw [LI hin,LQ hin] at hR
    obtain ⟨p_s,n_s,cap_s,g_s,b_s,rfl,ha_s,hmc⟩:=hR
    refine ⟨hh.ext hmc.to,?_⟩
    replace hh:=hh.ext hmc.to
    replace hm:=hm.Jt hmc
    obtain rfl:=ha_s.J0
    refine au 4 ?_
    refine st hm 1 fun w hm=>?_
    refine au 10 ?_
    refine st hm 2 fun w hm=>?_
    refine au 5 ?_
    exact ⟨i,k_,Pl.QW c.cm s (i-Pl.first s (xs.map CmdV.cm) k_),p_s,_,cap_s,g_s,b_s,by rw [LQ hgood]; rfl,ha_s,(hm.pick [0] rfl),fun _=>⟨rfl,by omega,by (have h9:=Pl.steps_get (b:=0) (i:=i.toNat) hfw hcm (by omega) (by omega)); rw [LV,show ((i.toNat:Nat):Int)=i by omega] at h9; exact h9⟩,fun h=>absurd hgood h⟩
theorem p_new(s:Int)(q:Option Addr)(cq:Nat)(xs:List CmdV)(w0:World)(hq:Rd w0 q (xs.flatMap JM))(hok:∀ c∈xs,Pl.ccheck c.cm=0∧c.d.okN w0∧c.d.bs.length≤140737488355328)(hs:Pl.I64 s∧1≤s)(hfw:Pl.ZF s (xs.map CmdV.cm))(hmx:xs.length≤1000000∧Pl.first s (xs.map CmdV.cm) (xs.map CmdV.cm).length≤4611686018427387903):C Tryz.prog 146 [.int .i64 s,.slice q xs.length cq] w0 fun v w'=>((v=.pointer none∧(Pl.total 0 (Pl.targets (xs.map CmdV.cm))).isSome=false∧Ext No w0 w')∨∃ (m:Nat) (pf pb pl:Option Addr) (cf cb cl gf gb gl:Nat) (bf bb bl:Blk) (ys:List CmdV) (B:List (Nat×Blk)),v=.pointer (some ⟨m,0,none⟩)∧(Pl.total 0 (Pl.targets (xs.map CmdV.cm))).isSome=true∧Acc 3 1 pf (J2 s (xs.map CmdV.cm)).length cf ((J2 s (xs.map CmdV.cm)).flatMap encI) gf bf∧Acc 3 1 pb (J2 s (xs.map CmdV.cm)).length cb ((beforeL (xs.map CmdV.cm)).flatMap encI) gb bb∧Acc 60 5 pl ys.length cl (ys.flatMap JM) gl bl∧ys.map CmdV.cm=(xs.map CmdV.cm)∧(∀ y∈ys,Held B 5 y.d)∧Mem w0 w' No ((m,.row 286 (plV s pf (J2 s (xs.map CmdV.cm)).length cf pb cb pl ys.length cl))::(gf,bf)::(gb,bb)::(gl,bl)::B)):=by
 refine C_o Tryz.func146 fun κ _ Je Jc hm=>?_
 refine au 12 ?_
 refine Ye rfl rfl (LN (by omega)) ?_
 refine au 5 ?_
 refine Jb (l:=[_]) rfl rfl sl134.h z3.h rfl rfl rfl rfl rfl rfl rfl hm trivial fun m1 w hg_m1 hm hh=>?_
 refine Jb (l:=[_]) rfl rfl sl134.h z3.h rfl rfl rfl rfl rfl rfl rfl hm trivial fun m2 w hg_m2 hm hh=>?_
 refine Ja rfl rfl (Qe (cs:=[_,_,_]) z284.h ft284.h rfl rfl rfl rfl rfl) ?_
 refine Ja rfl rfl (Qe (cs:=[_,_,_,_]) z286.h ft286.h rfl rfl rfl rfl rfl) ?_
 refine bT hm fun m3 w hm=>?_
 refine au 6 ?_
 replace hm:=hm.JP
 have ha_o:=Acc.nil 32 2 none 0
 refine au 11 ?_
 refine Jg (ι:=Nat×Ow) rfl (ks:=[0,1,4,5,21,22]) (.cons rfl (.cons rfl (.cons rfl (.cons rfl (.cons rfl (.cons rfl .nil)))))) (fun x=>[(23,.int .i64 x.1),(6,.slice x.2.p x.2.n x.2.cap)]) (fun x w=>Mem w0 w No ((x.2.g,x.2.b)::(m3,.row 286 [.int .i64 s,.slice (some ⟨m1,0,none⟩) 1 1,.slice (some ⟨m2,0,none⟩) 1 1,.slice none 0 0])::(m2,.row 3 [.int .i64 0])::[(m1,.row 3 [.int .i64 0])])∧Acc 32 2 x.2.p x.2.n x.2.cap (((Pl.targets (xs.map CmdV.cm)).take x.1).flatMap Q9) x.2.g x.2.b∧x.1≤xs.length∧x.2.n=x.1) (fun x=>xs.length-x.1) (0,⟨none,0,0,0,.gap⟩) (⟨hm,ha_o,LL _,rfl⟩) ⟨rfl,rfl,trivial⟩ (fun x w hM=>?_)
 obtain ⟨hm,ha_o,hk,hn⟩:=hM
 refine au 6 ?_
 refine cd (fun hc1=>?_) fun hc1=>?_
 ·
  simp only [dT] at hc1
  obtain ⟨c,hi⟩:∃ y_,xs[x.1]?=some y_:=⟨_,La (by omega)⟩
  obtain ⟨qb,qo,rfl⟩:=hq.atI Jf (by decide) hi
  have htg:(Pl.targets (xs.map CmdV.cm))[x.1]?=some (c.cm.to,Pl.clen c.cm):=by simp only [Pl.targets,List.map_map,Lt,hi]; rfl
  refine au 7 ?_
  refine Ja rfl rfl (JU rfl ag60.h (hq.Jj hm.to).nt Jf hi) ?_
  refine aT hm fun m4 w hm=>?_
  refine st hm 0 fun w hm=>?_
  refine au 5 ?_
  refine cA rfl rfl rfl (Vd c.cm c.d.p c.d.cap _) hm fun w hm=>?_
  refine Jb (l:=[_,_]) rfl rfl sl240.h z32.h rfl rfl rfl rfl rfl rfl rfl hm trivial fun m5 w hg_m5 hm hh=>?_
  refine Jy rfl rfl rfl rfl rfl rfl sl240.h sl240.h z32.h rfl rfl (Rd.JL (hm.get (k:=0) rfl)) rfl ha_o hm 2 rfl (by omega) (by omega) fun p_o cap_o g_o b_o w ha_o hm=>?_
  refine au 8 ?_
  refine next (x.1+1,⟨p_o,_,cap_o,g_o,b_o⟩) (by simp only; omega) ⟨(hm.pick [2,3,4,5] rfl),ha_o.to ?_,by simp only; omega,by simp only; omega⟩ ⟨nx x.1,rfl,rfl,rfl,rfl,rfl,rfl,rfl,trivial⟩
  rw [LC,htg]; simp [Q9]
 ·
  simp only [dF] at hc1
  have hke:x.1=xs.length:=by omega
  have htl:(Pl.targets (xs.map CmdV.cm)).length=xs.length:=by simp [Pl.targets]
  have hxn:x.2.n=(Pl.targets (xs.map CmdV.cm)).length:=by omega
  rw [hke,← htl,Lv] at ha_o
  have htok:=Pl.targets_ok (cs:=(xs.map CmdV.cm)) (fun d hd=>by obtain ⟨c,hc,rfl⟩:=Ln.1 hd; exact (hok c hc).1)
  refine au 9 ?_
  refine cA rfl rfl rfl (C.eqv (ext_total x.2.p x.2.cap (Pl.targets (xs.map CmdV.cm)) _ (ha_o.rd hm 0 rfl) (by omega) htok) (by rw [hxn])) hm fun w hm=>?_
  refine au 13 ?_
  refine cd (fun hc2=>?_) fun hc2=>?_
  ·
   simp only [bE] at hc2
   refine au 8 ?_
   exact .inl ⟨rfl,hc2,hm.to⟩
  ·
   simp only [bF] at hc2
   obtain ⟨T,hT⟩:=Option.isSome_iff_exists.1 hc2
   have hbf:=Pl.total_before hT (by decide) (fun d hd=>by obtain ⟨c,hc,rfl⟩:=Ln.1 hd; have:=Pl.Jl (hok c hc).1; omega)
   have hff:∀ k,k≤xs.length→0≤Pl.first s (xs.map CmdV.cm) k∧Pl.first s (xs.map CmdV.cm) k≤4611686018427387903:=fun k hk=>⟨Pl.VG k hfw,Int.le_trans (first_le' hfw (by rw [Lj]; exact hk)) hmx.2⟩
   refine au 11 ?_
   replace hm:=hm.tail.JP
   refine Jg (ι:=Nat×Ow×Ow×Ow×List CmdV×List (Nat×Blk)) rfl (ks:=[0,4,5,40,41]) (.cons rfl (.cons rfl (.cons rfl (.cons rfl (.cons rfl .nil))))) (fun y=>[(42,.int .i64 y.1)]) (fun y w=>Mem w0 w No ((m3,.row 286 [.int .i64 s,.slice y.2.1.p y.2.1.n y.2.1.cap,.slice y.2.2.1.p y.2.2.1.n y.2.2.1.cap,.slice y.2.2.2.1.p y.2.2.2.1.n y.2.2.2.1.cap])::(y.2.1.g,y.2.1.b)::(y.2.2.1.g,y.2.2.1.b)::(y.2.2.2.1.g,y.2.2.2.1.b)::y.2.2.2.2.2)∧Acc 3 1 y.2.1.p y.2.1.n y.2.1.cap (((List.range (y.1+1)).map (Pl.first s (xs.map CmdV.cm))).flatMap encI) y.2.1.g y.2.1.b∧Acc 3 1 y.2.2.1.p y.2.2.1.n y.2.2.1.cap (((List.range (y.1+1)).map (Pl.before (xs.map CmdV.cm))).flatMap encI) y.2.2.1.g y.2.2.1.b∧Acc 60 5 y.2.2.2.1.p y.2.2.2.1.n y.2.2.2.1.cap (y.2.2.2.2.1.flatMap JM) y.2.2.2.1.g y.2.2.2.1.b∧y.2.2.2.2.1.map CmdV.cm=(xs.map CmdV.cm).take y.1∧(∀ z∈y.2.2.2.2.1,Held y.2.2.2.2.2 5 z.d)∧y.1≤xs.length∧y.2.1.n=y.1+1∧y.2.2.1.n=y.1+1∧y.2.2.2.1.n=y.1) (fun y=>xs.length-y.1) (0,⟨some ⟨m1,0,none⟩,1,1,m1,.row 3 [.int .i64 0]⟩,⟨some ⟨m2,0,none⟩,1,1,m2,.row 3 [.int .i64 0]⟩,⟨none,0,0,0,.gap⟩,[],[]) (⟨(hm.pick [1,3,2,0] rfl),(Acc.row (l:=[.int .i64 0]) rfl).to (by simp [encI,Pl.first]),(Acc.row (l:=[.int .i64 0]) rfl).to (by simp [encI,Pl.before]),.nil _ _ _ _,by simp,by simp,LL _,rfl,rfl,rfl⟩) ⟨rfl,trivial⟩ (fun y w hM=>?_)
   obtain ⟨hm,ha_f,ha_b,ha_l,hym,hH,hyk,hnf,hnb,hnl⟩:=hM
   refine au 6 ?_
   refine cd (fun hc3=>?_) fun hc3=>?_
   ·
    simp only [dT] at hc3
    obtain ⟨c,hi⟩:∃ y_,xs[y.1]?=some y_:=⟨_,La (by omega)⟩
    obtain ⟨qb,qo,rfl⟩:=hq.atI Jf (by decide) hi
    obtain ⟨hc,hcd,hcl⟩:=hok c (Ld hi)
    have hcm:(xs.map CmdV.cm)[y.1]?=some c.cm:=by rw [Lt,hi]; rfl
    have hfn:=Pl.Yo s hcm
    have hbn:=Pl.before_next hcm
    have hif:=Pl.rg_get (f:=Pl.first s (xs.map CmdV.cm)) (LP y.1)
    have hib:=Pl.rg_get (f:=Pl.before (xs.map CmdV.cm)) (LP y.1)
    obtain ⟨b2,o2,hqf⟩:=(ha_f.rd hm 1 rfl).atI Jq (by decide) hif
    obtain ⟨b3,o3,hqb⟩:=(ha_b.rd hm 2 rfl).atI Jq (by decide) hib
    have hf1:=hff y.1 (by omega)
    have hf2:=hff (y.1+1) (by omega)
    have hb1:=hbf y.1
    have hb2:=hbf (y.1+1)
    have hc2:=hcd.le
    refine au 8 ?_
    refine Ja rfl rfl (JU rfl ag60.h (hq.Jj hm.to).nt Jf hi) ?_
    refine aT hm fun m4 w hm=>?_
    refine au 1 ?_
    refine st hm 0 fun w hm=>?_
    refine au 3 ?_
    refine dw [0,3,6,9,12,15,19,22,2,25,27,30,34] hm fun w hw hm0 hh hm=>?_
    refine au 6 ?_
    refine ca rfl rfl rfl (c_clone c.cm c.d.p c.d.cap _ (hcd.rd.Jj hm.to) hcl) fun v w hR=>?_
    obtain ⟨p_c,n_c,cap_c,g_c,b_c,rfl,ha_c,hmc⟩:=hR
    refine ⟨hh.ext hmc.to,?_⟩
    replace hh:=hh.ext hmc.to
    replace hm:=hm.Jt hmc
    obtain rfl:=ha_c.J0
    refine Jb (l:=[_,_,_,_,_]) rfl rfl sl24.h z60.h rfl rfl rfl rfl rfl rfl rfl hm hh fun m5 w hg_m5 hm hh=>?_
    refine au 1 ?_
    refine Jy rfl rfl rfl rfl rfl rfl sl24.h sl24.h z60.h rfl rfl (Rd.JL (hm.get (k:=0) rfl)) rfl ha_l hm 6 rfl (by omega) (by omega) fun p_l cap_l g_l b_l w ha_l hm=>?_
    replace hm:=hm.stow 1 rfl
    refine au 2 ?_
    refine st hm 2 fun w hm=>?_
    refine au 3 ?_
    refine dw [0,3,6,9,12,15,18,21,24,27,30,33,36,39,42,45,49,51,55,2,58,60,63,66,70] hm fun w hw hm0 hh hm=>?_
    refine au 12 ?_
    refine Ja rfl rfl (Qy rfl rfl sl134.h hqf (by omega) (by omega)) ?_
    refine Ja rfl rfl (J3 rfl sc3.h (hqf▸ha_f.rd hm0 3 rfl).nd Jq hif rfl) ?_
    refine au 2 ?_
    refine cB rfl rfl rfl (ch_count c.cm c.d.p c.d.cap s _ hc hs.1) hm hh fun w hm hh=>?_
    refine au 1 ?_
    refine Jb (l:=[_]) rfl rfl sl134.h z3.h rfl rfl rfl rfl rfl rfl rfl hm hh fun m6 w hg_m6 hm hh=>?_
    refine au 1 ?_
    refine Jy rfl rfl rfl rfl rfl rfl sl134.h sl134.h z3.h rfl rfl (Rd.JL (hm.get (k:=0) rfl)) rfl ha_f hm 4 rfl (by omega) (by omega) fun p_f cap_f g_f b_f w ha_f hm=>?_
    refine au 3 ?_
    refine st hm 3 fun w hm=>?_
    refine au 2 ?_
    refine dw [0,3,6,9,12,15,18,21,24,27,30,33,36,39,42,46,48,51,55,2,58,60,63,66,70] hm fun w hw hm0 hh hm=>?_
    refine au 12 ?_
    refine Ja rfl rfl (Qy rfl rfl sl134.h hqb (by omega) (by omega)) ?_
    refine Ja rfl rfl (J3 rfl sc3.h (hqb▸ha_b.rd hm0 5 rfl).nd Jq hib rfl) ?_
    refine au 1 ?_
    refine cB rfl rfl rfl (Vd c.cm c.d.p c.d.cap _) hm hh fun w hm hh=>?_
    refine Ja rfl rfl (QF rfl fv32_1 rfl) ?_
    refine au 1 ?_
    refine Jb (l:=[_]) rfl rfl sl134.h z3.h rfl rfl rfl rfl rfl rfl rfl hm hh fun m7 w hg_m7 hm hh=>?_
    refine au 1 ?_
    refine Jy rfl rfl rfl rfl rfl rfl sl134.h sl134.h z3.h rfl rfl (Rd.JL (hm.get (k:=0) rfl)) rfl ha_b hm 6 rfl (by omega) (by omega) fun p_b cap_b g_b b_b w ha_b hm=>?_
    refine au 3 ?_
    refine st hm 4 fun w hm=>?_
    refine au 7 ?_
    refine next (y.1+1,⟨p_f,_,cap_f,g_f,b_f⟩,⟨p_b,_,cap_b,g_b,b_b⟩,⟨p_l,_,cap_l,g_l,b_l⟩,y.2.2.2.2.1++[mkC c.cm p_c cap_c],y.2.2.2.2.2++[(g_c,b_c)]) (by simp only; omega) ⟨(hm.Jp [4,5,6,7] 8 rfl),ha_f.to ?_,ha_b.to ?_,ha_l.to ?_,?_,heldAdd hH (ha_c.held (by simp)),by simp only; omega,by simp only; omega,by simp only; omega,by simp only; omega⟩ ⟨nx y.1,rfl,rfl,rfl,rfl,rfl,trivial⟩
    · rw [List.range_succ (n:=y.1+1),Lx,Lh,List.map_singleton,List.flatMap_singleton,hfn]; rfl
    · rw [List.range_succ (n:=y.1+1),Lx,Lh,List.map_singleton,List.flatMap_singleton,hbn]; rfl
    · rw [Lh,List.flatMap_singleton]; rfl
    · rw [Lx,hym,LC,hcm]; rfl
   ·
    simp only [dF] at hc3
    have hke:y.1=(xs.map CmdV.cm).length:=by rw [Lj]; omega
    have hfl:=Xx s (xs.map CmdV.cm)
    rw [hke] at ha_f ha_b hym
    rw [Lv] at hym
    have hyl:=LM List.length hym
    rw [Lj] at hyl
    rw [show y.2.1.n=(J2 s (xs.map CmdV.cm)).length by omega] at ha_f hm
    rw [show y.2.2.1.n=(J2 s (xs.map CmdV.cm)).length by omega] at ha_b hm
    rw [show y.2.2.2.1.n=y.2.2.2.2.1.length by omega] at ha_l hm
    refine au 13 ?_
    exact .inr ⟨m3,y.2.1.p,y.2.2.1.p,y.2.2.2.1.p,y.2.1.cap,y.2.2.1.cap,y.2.2.2.1.cap,y.2.1.g,y.2.2.1.g,y.2.2.2.1.g,y.2.1.b,y.2.2.1.b,y.2.2.2.1.b,y.2.2.2.2.1,y.2.2.2.2.2,rfl,hc2,ha_f,ha_b,ha_l,hym,hH,hm⟩
theorem f_check(D:Pl.Dv)(m:Nat)(Z:List (Nat×Blk))(w0:World)(hZ:Jr w0 Z)(hz:JV 112 258 5 D m Z)(a b:Int)(ha:Pl.I64 a)(hb:Pl.I64 b):C Tryz.prog 217 [.pointer (some ⟨m,0,none⟩),.agg ⟨[.int .i64 a,.int .i64 b]⟩] w0 fun v w'=>v=.int .i64 (if Pl.onD D a b=true then 0 else 2)∧Ext No w0 w':=by
 have hok:=hz.ok
 have o4:=hok.max
 have ho:Pl.onD D a b=(Pl.valid a b&&decide (a+b≤((D.cnt*D.sz:Nat):Int))):=rfl
 refine C_o Tryz.func217 fun κ _ Je Jc hm=>?_
 refine au 2 ?_
 refine bT hm fun m1 w hm=>?_
 refine au 14 ?_
 cases hv:Pl.valid a b
 ·
  refine au 2 ?_
  refine cA rfl rfl rfl (C.as (v:=.bool false) (Qw a b _ ha hb) (by rw [hv])) hm fun w hm=>?_
  refine au 24 ?_
  first | exact ⟨by rw [ho,hv]; rfl,hm.to⟩ | exact ⟨by rw [ho,hv,LN (by omega)]; rfl,hm.to⟩
 ·
  have hv2:=Pl.valid_t hv
  refine au 2 ?_
  refine cA rfl rfl rfl (C.as (v:=.bool true) (Qw a b _ ha hb) (by rw [hv])) hm fun w hm=>?_
  refine au 3 ?_
  refine cA rfl rfl rfl (QC a b _ (by simp only [Pl.I64]; omega)) hm fun w hm=>?_
  refine au 1 ?_
  refine cA rfl rfl rfl (Xt D m Z _ (hZ.ext hm.to) hz) hm fun w hm=>?_
  refine au 1 ?_
  refine cA rfl rfl rfl (X6 D m Z _ (hZ.ext hm.to) hz) hm fun w hm=>?_
  refine Ja rfl rfl (Vy rfl rfl ((mulN (by rw [Nat.mul_comm]; omega)).trans (show _=((D.cnt*D.sz:Nat):Int) by rw [Nat.mul_comm]))) ?_
  refine au 5 ?_
  refine cd (fun hc1=>?_) fun hc1=>?_
  ·
   simp only [dT] at hc1
   refine au 9 ?_
   first | exact ⟨by rw [ho,hv]; rfl,hm.to⟩ | exact ⟨by rw [ho,hv,LN (by omega)]; rfl,hm.to⟩
  ·
   simp only [dF] at hc1
   refine au 10 ?_
   exact ⟨by rw [ho,hv,LQ (by omega)]; rfl,hm.to⟩
theorem f_parts(s a b:Int)(w0:World):C Tryz.prog 218 [.int .i64 s,.agg ⟨[.int .i64 a,.int .i64 b]⟩] w0 fun v w'=>∃ q1 q2,v=.func (.func 253) #[] ⟨[.pointer (some ⟨q1,0,none⟩),.pointer (some ⟨q2,0,none⟩)]⟩∧Mem w0 w' No [(q2,.row 32 [.int .i64 a,.int .i64 b]),(q1,.row 3 [.int .i64 s])]:=by
 refine C_o Tryz.func218 fun κ _ Je Jc hm=>?_
 refine au 2 ?_
 refine bT hm fun m1 w hm=>?_
 refine bT hm fun m2 w hm=>?_
 refine au 11 ?_
 exact ⟨_,_,rfl,hm⟩
theorem f_parts1(sz a b:Nat)(u1 u2 yl:Nat)(I:List (Nat×Blk)→Nat→World→Prop)(Q:World→Prop)(F0:List (Nat×Blk))(w0:World)(hs:1≤sz)(hsz:sz≤1048576)(hab:a+b≤1048576)
 (hrow:∀ F i w,I F i w→w.heap[u1]?=some (Blk.row 3 [.int .i64 (sz:Int)]).Jd∧w.heap[u2]?=some (Blk.row 32 [.int .i64 (a:Int),.int .i64 (b:Int)]).Jd)
 (hext:∀ F i w w' N,I F i w→Mem w w' No N→I (F++N) i w') (hown:∀ F i w,I F i w→∀ e,e∈F→e.2.real=true→w.heap[e.1]?=some e.2.Jd)
 (hy:∀ F i w,I F i w→Pl.sF sz a b≤i→i<Pl.sF sz a b+Pl.sN sz a b→Yw Tryz.prog yl [.int .i64 (i:Int),.agg ⟨[.int .i64 ((Pl.pO sz a i:Nat):Int),.int .i64 ((Pl.pL sz a b i:Nat):Int)]⟩] w fun v w'=>(v=.bool true∧I F (i+1) w')∨(v=.bool false∧Q w')) (h0:I F0 (Pl.sF sz a b) w0):C Tryz.prog 253 [.func (.yield yl) #[] #[],.pointer (some ⟨u1,0,none⟩),.pointer (some ⟨u2,0,none⟩)] w0 fun v w'=>v=.tuple ⟨[]⟩∧((∃ F,I F (Pl.sF sz a b+Pl.sN sz a b) w')∨Q w'):=by
 have hbd:∀ i,i<Pl.sF sz a b+Pl.sN sz a b→Pl.sF sz a b≤i→i*sz<a+b:=fun i h1 h2=>(Pl.s_in hs h2 h1).2.1
 have hcn:=Pl.XZ (cnt:=1048576) (sz:=sz) (a:=a) (b:=b) hs (Ki hab (Lu _ hs)) (by decide)
 obtain ⟨E,hE9⟩:∃ E,Pl.sF sz a b+Pl.sN sz a b=E:=⟨_,rfl⟩
 have hEc:((Pl.sF sz a b:Nat):Int)+((Pl.sN sz a b:Nat):Int)=(E:Int):=by omega
 refine C_o Tryz.func253 fun κ _ Je Jc hm=>?_
 refine au 2 ?_
 refine Ja rfl rfl (Jh rfl sc3.h (Qo ((hm.to.same _ (Lb.1 (hrow _ _ _ h0).1).1 id).trans (hrow _ _ _ h0).1)) rfl) ?_
 refine Ja rfl rfl (Jm (s:=2) (vs:=[_,_]) rfl ag32.h (Qo ((hm.to.same _ (Lb.1 (hrow _ _ _ h0).2).1 id).trans (hrow _ _ _ h0).2)) rfl) ?_
 refine cA rfl rfl rfl (C.as (v:=.agg ⟨[.int .i64 ((Pl.sF sz a b:Nat):Int),.int .i64 ((Pl.sN sz a b:Nat):Int)]⟩) (f_secs (sz:Int) (a:Int) (b:Int) _ (by simp only [Pl.I64]; omega) (by simp only [Pl.I64]; omega) (by simp only [Pl.I64]; omega)) (by rw [Pl.secs_nat hs (by omega)]; rfl)) hm fun w hm=>?_
 refine aT hm fun m1 w hm=>?_
 refine st hm 0 fun w hm=>?_
 refine au 10 ?_
 refine Jg (ι:=List (Nat×Blk)×Nat) rfl (ks:=[0,1,2,4]) (.cons rfl (.cons rfl (.cons rfl (.cons rfl .nil)))) (fun x=>[(5,.int .i64 x.2)]) (fun x w=>I x.1 x.2 w∧Pl.sF sz a b≤x.2∧x.2≤E∧(m1,Blk.row 32 [.int .i64 ((Pl.sF sz a b:Nat):Int),.int .i64 ((Pl.sN sz a b:Nat):Int)])∈x.1) (fun x=>E-x.2) (F0++_,Pl.sF sz a b) (⟨hext _ _ _ _ _ h0 hm,LP _,by omega,Ly _ (Lf.2 rfl)⟩) ⟨rfl,trivial⟩ (fun x w hM=>?_)
 obtain ⟨hI,hlo,hk,hF⟩:=hM
 have hm:=Mem.start w
 obtain ⟨hR1,hR2⟩:=hrow _ _ _ hI
 have hT:=hown _ _ _ hI _ hF rfl
 refine au 4 ?_
 refine Ja rfl rfl (Jm (s:=2) (vs:=[_,_]) rfl ag32.h (Qo ((hm.to.same _ (Lb.1 hT).1 id).trans hT)) rfl) ?_
 refine cA rfl rfl rfl (C.as (v:=.int .i64 (E:Int)) (QC _ _ _ (by simp only [Pl.I64]; omega)) (by rw [hEc])) hm fun w hm=>?_
 refine au 3 ?_
 refine cd (fun hc0=>?_) fun hc0=>?_
 ·
  simp only [dT] at hc0
  have hb9:=hbd x.2 (by omega) hlo
  refine au 6 ?_
  refine Ja rfl rfl (Jm (s:=2) (vs:=[_,_]) rfl ag32.h (Qo ((hm.to.same _ (Lb.1 hR2).1 id).trans hR2)) rfl) ?_
  refine au 2 ?_
  refine Ja rfl rfl (Vy rfl rfl (mulN (by omega))) ?_
  refine au 2 ?_
  refine cA rfl rfl rfl (C.as (v:=.tuple ⟨[.agg ⟨[.int .i64 ((Pl.pO sz a x.2:Nat):Int),.int .i64 ((Pl.pL sz a b x.2:Nat):Int)]⟩,.bool true]⟩) (Q7 (a:Int) (b:Int) ((x.2*sz:Nat):Int) (sz:Int) _ (by omega) (by omega)) (by rw [Pl.part_eq hs hlo (by omega)]; rfl)) hm fun w hm=>?_
  refine au 3 ?_
  refine aT hm fun m2 w hm=>?_
  refine st hm 0 fun w hm=>?_
  refine au 8 ?_
  have hI2:=hext _ _ _ _ _ hI hm
  refine XM rfl rfl rfl rfl (hy _ _ _ hI2 hlo (by omega)) fun v w hR=>?_
  refine ⟨trivial,?_⟩
  obtain ⟨go9,rfl,hgo⟩:∃ go,v=.bool go∧((go=true∧I _ (x.2+1) w)∨(go=false∧Q w)):=hR.elim (fun h=>⟨true,h.1,.inl ⟨rfl,h.2⟩⟩) (fun h=>⟨false,h.1,.inr ⟨rfl,h.2⟩⟩)
  refine au 3 ?_
  refine cd (fun hc1=>?_) fun hc1=>?_
  ·
   have hQ:Q w:=hgo.elim (fun h=>by rw [h.1] at hc1; cases hc1) (fun h=>h.2)
   refine au 5 ?_
   refine toR (fin Je rfl .nil .nil ?_)
   exact ⟨rfl,.inr hQ⟩
  ·
   have hI3:=hgo.elim (fun h=>h.2) (fun h=>by rw [h.1] at hc1; cases hc1)
   refine au 8 ?_
   exact next (x.1++_,x.2+1) (by simp only; omega) ⟨hI3,by simp only; omega,by simp only; omega,by simp [hF]⟩ ⟨nx x.2,rfl,rfl,rfl,rfl,trivial⟩
 ·
  simp only [dF] at hc0
  have hke:x.2=E:=by omega
  refine au 4 ?_
  refine toN (fin Jc rfl .nil .nil ?_)
  exact ⟨rfl,.inl ⟨_,by rw [hE9,← hke]; exact hext _ _ _ _ _ hI hm⟩⟩
theorem f_read(D:Pl.Dv)(m:Nat)(Z:List (Nat×Blk))(a b:Nat)(w0:World)(hZ:Jr w0 Z)(hz:JV 112 258 5 D m Z)(hon:Pl.onD D (a:Int) (b:Int)=true):C Tryz.prog 177 [.pointer (some ⟨m,0,none⟩),.agg ⟨[.int .i64 (a:Int),.int .i64 (b:Int)]⟩] w0 fun v w'=>∃ q c g d,v=.tuple ⟨[.slice q (Pl.rdB D a b).length c,.int .i64 (Pl.Q6 D a b)]⟩∧Acc 5 1 q (Pl.rdB D a b).length c ((Pl.rdB D a b).flatMap Jk) g d∧Mem w0 w' No [(g,d)]:=by
 have hok:=hz.ok
 have o1:=hok.sz
 have o4:=hok.max
 have o3:=hok.cnt
 have o7:D.sz≤D.cnt*D.sz:=L1 _ o3
 have hv:=Pl.JJ.1 hon
 have hab:a+b≤D.cnt*D.sz:=by omega
 have hcl:=Pl.Xh hok
 have hXl:(((Pl.contents D).drop a).take b).length=b:=by rw [Lg,Lm]; omega
 have hcn:=Pl.XZ (cnt:=D.cnt) (sz:=D.sz) (a:=a) (b:=b) o1 hab o3
 have hrc:Pl.Q6 D a b=if 0<b∧D.dn=true then 18 else 0:=by
  unfold Pl.Q6
  rw [hon]
  simp only [Bool.true_eq_false,if_false]
  by_cases h9:0<b∧D.dn=true
  · rw [LI h9,LI ⟨by omega,h9.2⟩]
  · rw [LH h9,LH (fun e=>h9 ⟨by omega,e.2⟩)]
 have hrb:Pl.Q6 D a b=0→Pl.rdB D a b=((Pl.contents D).drop a).take b:=fun h=>by unfold Pl.rdB; rw [LI h]; rfl
 have hrb2:Pl.Q6 D a b≠0→Pl.rdB D a b=[]:=fun h=>by unfold Pl.rdB; rw [LH h]
 refine Zt Tryz.func177 rfl rfl rfl fun κ _ Je Jc=>?_
 have hm:=Mem.start w0
 refine au 2 ?_
 refine bT hm fun m1 w hm=>?_
 refine bT hm fun m2 w hm=>?_
 refine aT hm fun m3 w hm=>?_
 refine aT hm fun m4 w hm=>?_
 refine au 7 ?_
 refine cA rfl rfl rfl (C.as (v:=.int .i64 0) (f_check D m Z _ (hZ.ext hm.to) hz (a:Int) (b:Int) (by simp only [Pl.I64]; omega) (by simp only [Pl.I64]; omega)) (by rw [LI hon])) hm fun w hm=>?_
 refine au 6 ?_
 refine Ja rfl rfl (JA (c:=false) (XD rfl rfl) (by decide)) ?_
 refine au 9 ?_
 refine a_make rfl rfl rfl rfl sl22.h z5.h rfl (by omega) (by omega) (by omega) hm trivial fun g_s w hg_s ha_s hm hh=>?_
 replace ha_s:=ha_s.to (show _=(Pl.half (((Pl.contents D).drop a).take b) b (Pl.rL D.sz a b (Pl.sF D.sz a b))).flatMap Jk by rw [Pl.rL_first o1]; unfold Pl.half; rw [List.take_zero,L4,Nat.sub_zero]; exact repB b)
 refine aT hm fun m5 w hm=>?_
 refine st hm 0 fun w hm=>?_
 refine au 4 ?_
 refine dw [0,6,4,2,10] hm fun w hw hm0 hh hm=>?_
 refine Ja rfl rfl (Jh rfl sc67.h (hm0.nd 5 rfl id) rfl) ?_
 refine Ja rfl rfl (Jm (s:=2) (vs:=[_,_]) rfl ag32.h (hm0.nd 4 rfl id) rfl) ?_
 refine cB rfl rfl rfl (Xt D m Z _ (hZ.ext hm.to) hz) hm hh fun w hm hh=>?_
 refine au 1 ?_
 refine cT rfl rfl rfl (f_parts (D.sz:Int) (a:Int) (b:Int) _) fun v w hR=>?_
 obtain ⟨q1,q2,rfl,hmc⟩:=hR
 replace hm:=hm.Jt hmc
 refine au 3 ?_
 refine VJ rfl rfl go253 hm fun a_ fn r0 l w LB hLB hfr hl_ hs_ hm=>?_
 refine C.mono (f_parts1 D.sz a b q1 q2 l (fun F i w=>∃ b_s,Mem w0 w No ((l,LB .ready none)::(r0,dblk (some []))::(q2,.row 32 [.int .i64 (a:Int),.int .i64 (b:Int)])::(q1,.row 3 [.int .i64 (D.sz:Int)])::(m5,.row 22 [.slice (some ⟨g_s,0,none⟩) b b])::(g_s,b_s)::(m4,.row 35 [.int .i64 0])::(m3,.row 22 [.slice none 0 0])::(m2,.row 32 [.int .i64 (a:Int),.int .i64 (b:Int)])::(m1,.row 67 [.pointer (some ⟨m,0,none⟩)])::F)∧Acc 5 1 (some ⟨g_s,0,none⟩) b b ((Pl.half (((Pl.contents D).drop a).take b) b (Pl.rL D.sz a b i)).flatMap Jk) g_s b_s∧(Pl.sF D.sz a b<i→D.dn=false)) (fun w=>∃ b_s F,Mem w0 w No ((l,LB .done (some .ret))::(r0,dblk (some []))::(q2,.row 32 [.int .i64 (a:Int),.int .i64 (b:Int)])::(q1,.row 3 [.int .i64 (D.sz:Int)])::(m5,.row 22 [.slice (some ⟨g_s,0,none⟩) b b])::(g_s,b_s)::(m4,.row 35 [.int .i64 18])::(m3,.row 22 [.slice none 0 0])::(m2,.row 32 [.int .i64 (a:Int),.int .i64 (b:Int)])::(m1,.row 67 [.pointer (some ⟨m,0,none⟩)])::F)∧D.dn=true∧0<b) [] _ o1 (by omega) (by omega)
  (by rintro F i w ⟨b_s,hm,-⟩; exact ⟨hm.get (k:=3) rfl,hm.get (k:=2) rfl⟩)
  (by rintro F i w w' N ⟨b_s,hm,ha,hd⟩ hc; exact ⟨b_s,Mem.callT (N1:=[]) hm hc,ha,hd⟩)
  (by rintro F i w ⟨b_s,hm,-⟩ e he hr; exact hm.own e (by simp [he]) hr)
  (fun F i w hI hlo hhi=>?_) ⟨_,hm,ha_s,fun h=>absurd h (Nat.lt_irrefl _)⟩) (fun v w hR=>?_)
 ·
  subst hLB
  obtain ⟨b_s,hm,ha_s,hdn⟩:=hI
  obtain ⟨p1,p2,p3,p4,p5⟩:=Pl.part_bnd (b:=b) o1 hlo hhi
  obtain ⟨n1,n2⟩:=Pl.rL_next (b:=b) o1 hlo hhi
  have hb0:=(Pl.s_in o1 hlo hhi).1
  have hse:=Pl.V9 (sz:=D.sz) (show i<D.cnt by omega)
  have hii:i≤i*D.sz:=Lu _ o1
  refine Yw.of hfr (hm.get (k:=0) rfl) rfl rfl ?_
  refine au 6 ?_
  refine aT hm fun m6 w hm=>?_
  refine st hm 0 fun w hm=>?_
  refine au 1 ?_
  refine Xf hm 1 rfl fun w hm=>?_
  refine XC rfl ?_
  refine Qb rfl ?_
  refine JT (.pure 0 (.pure 1 (.act 2 (.pure 3 (.pure 4 (.pure 5 (.pure 6 (.pure 7 .done)))))))) (by kernel_rfl) ?_
  refine Ja rfl rfl (Jh rfl sc67.h (hm.nt 10 rfl) rfl) ?_
  refine Ja rfl rfl (Jx rfl) ?_
  refine cT rfl rfl rfl (o_read D m Z _ (hZ.ext hm.to) hz (i:Int)) fun v w hR=>?_
  obtain ⟨p_v,cap_v,g_v,b_v,rfl,ha_v,hmc⟩:=hR
  have hg_v:b_v.real=true→_:=fun hr=>(hmc.fresh _ Lo hr).resolve_left id
  replace hm:=hm.Jt hmc
  refine au 14 ?_
  refine cd (fun hc1=>?_) fun hc1=>?_
  ·
   simp only [dT] at hc1
   have hdn1:D.dn=true:=by
    unfold Pl.JI at hc1
    by_cases h9:D.dn=true
    · exact h9
    · rw [LH h9,LH (by omega)] at hc1; exact absurd rfl hc1
   have hc18:Pl.JI D (i:Int)=18:=by unfold Pl.JI; rw [LI hdn1]
   refine au 3 ?_
   refine st hm 9 fun w hm=>?_
   refine st hm 8 fun w hm=>?_
   rw [hc18] at hm
   refine au 5 ?_
   refine g_ret hm 2 rfl fun w hm=>?_
   exact .inr ⟨rfl,b_s,_,(hm.Jp [2,3,4,5,6,7,8,9,10,11] 12 rfl),hdn1,hb0⟩
  ·
   simp only [dF,Decidable.not_not] at hc1
   obtain ⟨hdn0,_,_⟩:=code0 hc1
   rw [hc1,LI rfl] at ha_v ⊢
   have hvl:=Pl.rdS_len hok (i:=i) (by omega)
   have hvle:=ha_v.le
   refine au 2 ?_
   refine dw [0,3,6,9,12,15,18,21,24,27,30,33,36,39,42,46,48,51,54,2,58] hm fun w hw hm0 hh hm=>?_
   refine Ja rfl rfl (Jh rfl sc22.h (hm0.nd 6 rfl id) rfl) ?_
   refine Ja rfl rfl (Jv rfl fo32_0.h) ?_
   refine Ja rfl rfl (Jh rfl sc3.h (hm0.nd 1 rfl id) rfl) ?_
   refine Ja rfl rfl (Jv rfl fo32_0.h) ?_
   refine Ja rfl rfl (Jh rfl sc3.h (hm0.nd 10 rfl id) rfl) ?_
   refine Ja rfl rfl (QR rfl rfl (subK _ (by omega) (by omega))) ?_
   refine Ja rfl rfl (JE (ln:=(Pl.pO D.sz a i-a)) (hn:=b) rfl sl22.h ⟨_,rfl⟩ rfl (by omega) (by omega) (fun _ ad e=>by cases e; rfl)) ?_
   refine au 2 ?_
   refine Ja rfl rfl (y_v (JE (ln:=0) (hn:=(Pl.pL D.sz a b i)) rfl sl22.h rfl ⟨_,rfl⟩ (by omega) (by omega) (fun h ad e=>XX (fun _ ad e=>by cases e; rfl) (by omega) e)) (show _=Value.slice (slp (some ⟨g_s,0,none⟩) b (Pl.pO D.sz a i-a) 1) (Pl.pL D.sz a b i) (b-(Pl.pO D.sz a i-a)) by rw [VR (fun h ad e=>XX (fun _ ad e=>by cases e; rfl) (by omega) e)]; rfl)) ?_
   refine Ja rfl rfl (Jx rfl) ?_
   refine Ja rfl rfl (Jv rfl fo32_0.h) ?_
   refine Ja rfl rfl (Jh rfl sc3.h (hm0.nd 1 rfl id) rfl) ?_
   refine Ja rfl rfl (Jx rfl) ?_
   refine Ja rfl rfl (Jh rfl sc67.h (hm0.nd 11 rfl id) rfl) ?_
   refine cB rfl rfl rfl (Xt D m Z _ (hZ.ext hm.to) hz) hm hh fun w hm hh=>?_
   refine Ja rfl rfl (Vy rfl rfl (mulN (by omega))) ?_
   refine Ja rfl rfl (QR rfl rfl (subK _ (by omega) (by omega))) ?_
   refine Ja rfl rfl (JE (ln:=(Pl.pO D.sz a i-i*D.sz)) (hn:=(Pl.rdS D (i:Int)).length) rfl sl22.h ⟨_,rfl⟩ rfl (by omega) (by omega) (fun h=>ha_v.spot (by omega))) ?_
   refine au 1 ?_
   refine a_copyL (o:=Pl.pO D.sz a i-a) (src:=((((Pl.rdS D (i:Int)).drop (Pl.pO D.sz a i-i*D.sz)).take (Pl.pL D.sz a b i)).flatMap Jk)) rfl rfl rfl rfl rfl sl22.h (by omega) ((ha_v.rd hm 0 rfl).sub hvle) (by rw [J0,Lg,Lm]; omega) (Zl _) ha_s hm 7 rfl fun b_s w ha_s hm=>?_
   rw [Y0 (by rw [Pl.half_len hXl (by unfold Pl.rL; omega),Lg,Lm]; omega),show Pl.rdS D (i:Int)=((Pl.contents D).drop (i*D.sz)).take D.sz from rfl,Pl.half_next o1 (by rw [hcl]; exact hab) hlo hhi] at ha_s
   refine au 2 ?_
   refine g_end hm 2 rfl fun w hm=>?_
   refine .inl ⟨rfl,b_s,(hm.Jp [2,3,4,5,6,7,8,9,10,11] 12 rfl),?_,fun _=>hdn0⟩
   exact ha_s
 ·
  subst hLB
  obtain ⟨-,⟨F,b_s,hm,ha_s,hdn⟩ | ⟨b_s,F,hm,hdn,hb0⟩⟩:=hR
  ·
   rw [Pl.rL_last o1] at ha_s
   have hc0:Pl.Q6 D a b=0:=by rw [hrc,LH]; rintro ⟨h1,h2⟩; have:=hdn (by unfold Pl.sN; rw [LH (by omega)]; omega); rw [h2] at this; cases this
   have hrB:=hrb hc0
   replace ha_s:=ha_s.to (show _=(Pl.rdB D a b).flatMap Jk by rw [hrB]; unfold Pl.half; rw [Nat.sub_self,List.replicate_zero,Lq,LZ (by rw [hXl]; exact LP _)])
   have hrl:(Pl.rdB D a b).length=b:=by rw [hrB,hXl]
   refine ⟨.ready,none,nofun,hm.get (k:=0) rfl,fun w4 hw4=>?_⟩
   replace hm:=Xw hm hw4
   refine au 5 ?_
   refine st hm 6 fun w hm=>?_
   refine st hm 5 fun w hm=>?_
   refine au 3 ?_
   refine toR (fin1 Je rfl hm 0 rfl .more fun w hm=>⟨(.cell rfl (JN sc22.h (hm.get (k:=6) rfl) rfl) (.cell rfl (JN sc35.h (hm.get (k:=5) rfl) rfl) .nil)),?_⟩)
   exact ⟨_,b,g_s,b_s,by rw [hrl,hc0],by rw [hrl]; exact ha_s,(hm.pick [4] rfl)⟩
  ·
   have hc1:Pl.Q6 D a b=18:=by rw [hrc,LI ⟨hb0,hdn⟩]
   have hrB:=hrb2 (by rw [hc1]; decide)
   refine ⟨.done,some .ret,nofun,hm.get (k:=0) rfl,fun w4 hw4=>?_⟩
   replace hm:=Xw hm hw4
   refine au 3 ?_
   refine toR (fin1 Je rfl hm 0 rfl .more fun w hm=>⟨(.cell rfl (JN sc22.h (hm.get (k:=6) rfl) rfl) (.cell rfl (JN sc35.h (hm.get (k:=5) rfl) rfl) .nil)),?_⟩)
   exact ⟨none,0,0,.gap,by rw [hrB,hc1]; rfl,by rw [hrB]; exact .nil _ _ _ _,(hm.JP.pick [0] rfl)⟩
theorem f_readX(D:Pl.Dv)(m:Nat)(Z:List (Nat×Blk))(w0:World)(hZ:Jr w0 Z)(hz:JV 112 258 5 D m Z)(a b:Int)(ha:Pl.I64 a)(hb:Pl.I64 b)(hon:Pl.onD D a b=false):C Tryz.prog 177 [.pointer (some ⟨m,0,none⟩),.agg ⟨[.int .i64 a,.int .i64 b]⟩] w0 fun v w'=>∃ q c g d,v=.tuple ⟨[.slice q 0 c,.int .i64 2]⟩∧Acc 5 1 q 0 c [] g d∧Mem w0 w' No [(g,d)]:=by
 refine Zt Tryz.func177 rfl rfl rfl fun κ _ Je Jc=>?_
 have hm:=Mem.start w0
 refine au 2 ?_
 refine bT hm fun m1 w hm=>?_
 refine bT hm fun m2 w hm=>?_
 refine aT hm fun m3 w hm=>?_
 refine aT hm fun m4 w hm=>?_
 refine au 7 ?_
 refine cA rfl rfl rfl (C.as (v:=.int .i64 2) (f_check D m Z _ (hZ.ext hm.to) hz a b ha hb) (by rw [hon]; rfl)) hm fun w hm=>?_
 refine au 6 ?_
 refine Ja rfl rfl (JA (c:=true) (XD rfl rfl) (by decide)) ?_
 refine au 6 ?_
 refine st hm 1 fun w hm=>?_
 refine st hm 0 fun w hm=>?_
 refine au 4 ?_
 refine toR (fin0 Je rfl (.cell rfl (JN sc22.h (hm.get (k:=1) rfl) rfl) (.cell rfl (JN sc35.h (hm.get (k:=0) rfl) rfl) .nil)) .more ?_)
 exact ⟨none,0,0,.gap,rfl,.nil _ _ _ _,(hm.JP.pick [0] rfl)⟩
theorem f_readA(D:Pl.Dv)(m:Nat)(Z:List (Nat×Blk))(w0:World)(hZ:Jr w0 Z)(hz:JV 112 258 5 D m Z)(a b:Int)(ha:Pl.I64 a)(hb:Pl.I64 b):C Tryz.prog 177 [.pointer (some ⟨m,0,none⟩),.agg ⟨[.int .i64 a,.int .i64 b]⟩] w0 fun v w'=>∃ q c g d,v=.tuple ⟨[.slice q (Pl.rdB D a b).length c,.int .i64 (Pl.Q6 D a b)]⟩∧Acc 5 1 q (Pl.rdB D a b).length c ((Pl.rdB D a b).flatMap Jk) g d∧Mem w0 w' No [(g,d)]:=by
 cases hon:Pl.onD D a b with
 | true=>
  have hv:=Pl.JJ.1 hon
  obtain ⟨x,rfl⟩:∃ x:Nat,a=x:=⟨a.toNat,by omega⟩
  obtain ⟨y,rfl⟩:∃ y:Nat,b=y:=⟨b.toNat,by omega⟩
  exact f_read D m Z x y w0 hZ hz hon
 | false=>
  have hc:Pl.Q6 D a b=2:=by unfold Pl.Q6; rw [hon]; rfl
  have hB:Pl.rdB D a b=[]:=by unfold Pl.rdB; rw [hc]; rfl
  rw [hB,hc]
  exact f_readX D m Z w0 hZ hz a b ha hb hon
theorem f_write(D:Pl.Dv)(m:Nat)(Z:List (Nat×Blk))(a:Nat)(q:Option Addr)(cq:Nat)(ps:List SB)(BB:List UInt8)(w0:World)(hZ:Jr w0 Z)(hz:JV 112 258 5 D m Z)(hon:Pl.onD D (a:Int) (BB.length:Int)=true)(hq:Rd w0 q (ps.flatMap encS))(hps:∀ s∈ps,Rd w0 s.p (s.bs.flatMap Jk))(hl:ps.length≤4611686018427387903)(hBB:ps.flatMap (·.bs)=BB)(hb:BB.length≤140737488355328)(hcl:D.ca.length+D.cnt≤1000000000):C Tryz.prog 264 [.pointer (some ⟨m,0,none⟩),.int .i64 (a:Int),.slice q ps.length cq] w0 fun v w'=>v=.int .i64 (Pl.wrS a BB (Pl.sN D.sz a BB.length) (Pl.sF D.sz a BB.length) D).1∧∃ Z',JV 112 258 5 (Pl.wrS a BB (Pl.sN D.sz a BB.length) (Pl.sF D.sz a BB.length) D).2 m Z'∧Mem w0 w' (Mn (reals Z)) Z':=by
 have hok:=hz.ok
 have o1:=hok.sz
 have o4:=hok.max
 have o3:=hok.cnt
 have o7:D.sz≤D.cnt*D.sz:=L1 _ o3
 have hv:=Pl.JJ.1 hon
 have hab:a+BB.length≤D.cnt*D.sz:=by omega
 have hcn:=Pl.XZ (cnt:=D.cnt) (sz:=D.sz) (a:=a) (b:=BB.length) o1 hab o3
 have ha:Pl.I64 (a:Int):=by simp only [Pl.I64]; omega
 refine Zt Tryz.func264 rfl rfl rfl fun κ _ Je Jc=>?_
 have hm:=Mem.start w0
 refine au 2 ?_
 refine bT hm fun m1 w hm=>?_
 refine bT hm fun m2 w hm=>?_
 refine aT hm fun m3 w hm=>?_
 refine au 5 ?_
 refine cT rfl rfl rfl (Yc q cq ps _ (hq.Jj hm.to) (fun s hs=>(hps s hs).Jj hm.to) hl (by rw [hBB]; exact hb)) fun v w hR=>?_
 obtain ⟨p_s,n_s,cap_s,g_s,b_s,rfl,ha_s,hmc⟩:=hR
 have hns:=ha_s.J0
 replace hm:=hm.Jt hmc
 rw [hBB] at ha_s hns
 refine aT hm fun m4 w hm=>?_
 refine st hm 0 fun w hm=>?_
 refine au 7 ?_
 refine Ja rfl rfl (y_v (Qe (cs:=[_,_]) z32.h ft32.h rfl rfl rfl rfl rfl) (show _=Value.agg ⟨[.int .i64 (a:Int),.int .i64 (BB.length:Int)]⟩ by rw [hns])) ?_
 refine aT hm fun m5 w hm=>?_
 refine st hm 0 fun w hm=>?_
 refine Qc ?_
 refine QV ?_
 refine Qb rfl ?_
 refine Qb rfl ?_
 refine JT (.pure 0 (.pure 1 (.act 2 (.pure 3 .done)))) (by kernel_rfl) ?_
 refine Ja rfl rfl (Jh rfl sc67.h (hm.nt 5 rfl) rfl) ?_
 refine Ja rfl rfl (Jm (s:=2) (vs:=[_,_]) rfl ag32.h (hm.nt 0 rfl) rfl) ?_
 refine cA rfl rfl rfl (C.as (v:=.int .i64 0) (f_check D m Z _ (hZ.ext hm.to) hz a (BB.length:Int) ha (by simp only [Pl.I64]; omega)) (by rw [LI hon])) hm fun w hm=>?_
 refine au 6 ?_
 refine Ja rfl rfl (JA (c:=false) (XD rfl rfl) (by decide)) ?_
 refine au 7 ?_
 refine dw [0,6,4,2,10] hm fun w hw hm0 hh hm=>?_
 refine Ja rfl rfl (Jh rfl sc67.h (hm0.nd 5 rfl id) rfl) ?_
 refine Ja rfl rfl (Jm (s:=2) (vs:=[_,_]) rfl ag32.h (hm0.nd 0 rfl id) rfl) ?_
 refine cB rfl rfl rfl (Xt D m Z _ (hZ.ext hm.to) hz) hm hh fun w hm hh=>?_
 refine au 1 ?_
 refine cT rfl rfl rfl (f_parts (D.sz:Int) (a:Int) (BB.length:Int) _) fun v w hR=>?_
 obtain ⟨q1,q2,rfl,hmc⟩:=hR
 replace hm:=hm.Jt hmc
 refine au 3 ?_
 replace hm:=hm.Zp hZ
 refine VJ rfl rfl go253 hm fun a_ fn r0 l w LB hLB hfr hl_ hs_ hm=>?_
 refine C.mono (f_parts1 D.sz a BB.length q1 q2 l (fun F i w=>∃ D9 Z9,Mem w0 w (Mn (reals Z)) ((l,LB .ready none)::(r0,dblk (some []))::(q2,.row 32 [.int .i64 (a:Int),.int .i64 (BB.length:Int)])::(q1,.row 3 [.int .i64 (D.sz:Int)])::(m5,.row 32 [.int .i64 (a:Int),.int .i64 (BB.length:Int)])::(m4,.row 22 [.slice p_s n_s cap_s])::(g_s,b_s)::(m3,.row 35 [.int .i64 0])::(m2,.row 3 [.int .i64 (a:Int)])::(m1,.row 67 [.pointer (some ⟨m,0,none⟩)])::(Z9++F))∧JV 112 258 5 D9 m Z9∧(Pl.wrS a BB (Pl.sN D.sz a BB.length) (Pl.sF D.sz a BB.length) D)=Pl.wrS a BB ((Pl.sF D.sz a BB.length+Pl.sN D.sz a BB.length)-i) i D9∧D9.sz=D.sz∧D9.cnt=D.cnt∧D9.ca.length+((Pl.sF D.sz a BB.length+Pl.sN D.sz a BB.length)-i)≤1000000000) (fun w=>∃ D9 Z9 F c9,Mem w0 w (Mn (reals Z)) ((l,LB .done (some .ret))::(r0,dblk (some []))::(q2,.row 32 [.int .i64 (a:Int),.int .i64 (BB.length:Int)])::(q1,.row 3 [.int .i64 (D.sz:Int)])::(m5,.row 32 [.int .i64 (a:Int),.int .i64 (BB.length:Int)])::(m4,.row 22 [.slice p_s n_s cap_s])::(g_s,b_s)::(m3,.row 35 [.int .i64 c9])::(m2,.row 3 [.int .i64 (a:Int)])::(m1,.row 67 [.pointer (some ⟨m,0,none⟩)])::(Z9++F))∧JV 112 258 5 D9 m Z9∧(Pl.wrS a BB (Pl.sN D.sz a BB.length) (Pl.sF D.sz a BB.length) D)=(c9,D9)) [] _ o1 (by omega) (by omega)
  (by rintro F i w ⟨D9,Z9,hm,-⟩; exact ⟨hm.get (k:=3) rfl,hm.get (k:=2) rfl⟩)
  (by rintro F i w w' N ⟨D9,Z9,hm,hz9,hR9,h1,h2,h3⟩ hc; exact ⟨D9,Z9,Mem.callT4 (A:=[_,_,_,_,_,_,_,_,_,_]) hm hc,hz9,hR9,h1,h2,h3⟩)
  (by rintro F i w ⟨D9,Z9,hm,-⟩ e he hr; exact hm.own e (by simp [he]) hr)
  (fun F i w hI hlo hhi=>?_) ⟨D,Z,by rw [Lq]; exact hm,hz,by rw [Kk],rfl,rfl,by omega⟩) (fun v w hR=>?_)
 ·
  subst hLB
  obtain ⟨D9,Z9,hm,hz9,hR9,hsz,hct,hca⟩:=hI
  obtain ⟨p1,p2,p3,p4,p5⟩:=Pl.part_bnd (b:=BB.length) o1 hlo hhi
  have hse:=Pl.V9 (sz:=D.sz) (show i<D.cnt by omega)
  have hii:i≤i*D.sz:=Lu _ o1
  refine Yw.of hfr (hm.get (k:=0) rfl) rfl rfl ?_
  refine au 6 ?_
  refine aT hm fun m6 w hm=>?_
  refine st hm 0 fun w hm=>?_
  refine au 1 ?_
  refine Xf hm 1 rfl fun w hm=>?_
  refine XC rfl ?_
  refine Qb rfl ?_
  refine JT (.pure 0 (.pure 1 (.act 2 (.pure 3 (.pure 4 (.pure 5 (.pure 6 (.pure 7 .done)))))))) (by kernel_rfl) ?_
  refine Ja rfl rfl (Jh rfl sc67.h (hm.nt 10 rfl) rfl) ?_
  refine Ja rfl rfl (Jx rfl) ?_
  refine cT rfl rfl rfl (o_read D9 m Z9 _ (Jr.mid (A:=[_,_,_,_,_,_,_,_,_,_,_]) hm.Jz) hz9 (i:Int)) fun v w hR=>?_
  obtain ⟨p_v,cap_v,g_v,b_v,rfl,ha_v,hmc⟩:=hR
  have hg_v:b_v.real=true→_:=fun hr=>(hmc.fresh _ Lo hr).resolve_left id
  replace hm:=hm.Jt hmc
  refine au 14 ?_
  refine cd (fun hc1=>?_) fun hc1=>?_
  ·
   simp only [dT] at hc1
   have hRR:(Pl.wrS a BB (Pl.sN D.sz a BB.length) (Pl.sF D.sz a BB.length) D)=(Pl.JI D9 (i:Int),D9):=by rw [hR9,show (Pl.sF D.sz a BB.length+Pl.sN D.sz a BB.length)-i=((Pl.sF D.sz a BB.length+Pl.sN D.sz a BB.length)-(i+1))+1 by omega]; unfold Pl.wrS; rw [LI hc1]
   refine au 3 ?_
   refine st hm 9 fun w hm=>?_
   refine au 5 ?_
   refine g_ret hm 2 rfl fun w hm=>?_
   first | exact .inr ⟨rfl,_,Z2,F,_,(hm.Jp [2,3,4,5,6,7,8,9,10,11] 12 rfl),hz2,hRR⟩ | exact .inr ⟨rfl,_,Z9,F,_,(hm.Jp [2,3,4,5,6,7,8,9,10,11] 12 rfl),hz9,hRR⟩
  ·
   simp only [dF,Decidable.not_not] at hc1
   have hvl:(Pl.rdS D9 (i:Int)).length=D.sz:=(Pl.rdS_len hz9.ok (i:=i) (by omega)).trans hsz
   rw [hc1,LI rfl,hvl] at ha_v ⊢
   have hvle:=ha_v.le
   have hsle:=ha_s.le
   rw [hns] at ha_s hsle
   refine au 3 ?_
   refine dw [0,3,6,9,12,27,30,33,36,39,42,45,48,51,16,18,21,24,2,55] hm fun w hw hm0 hh hm=>?_
   refine Ja rfl rfl (Jx rfl) ?_
   refine Ja rfl rfl (Jv rfl fo32_0.h) ?_
   refine Ja rfl rfl (Jh rfl sc3.h (hm0.nd 1 rfl id) rfl) ?_
   refine Ja rfl rfl (Jx rfl) ?_
   refine Ja rfl rfl (Jh rfl sc67.h (hm0.nd 11 rfl id) rfl) ?_
   refine Ja rfl rfl (Jh rfl sc22.h (hm0.nd 7 rfl id) rfl) ?_
   refine Ja rfl rfl (Jv rfl fo32_0.h) ?_
   refine Ja rfl rfl (Jh rfl sc3.h (hm0.nd 1 rfl id) rfl) ?_
   refine Ja rfl rfl (Jh rfl sc3.h (hm0.nd 10 rfl id) rfl) ?_
   refine Ja rfl rfl (QR rfl rfl (subK _ (by omega) (by omega))) ?_
   refine Ja rfl rfl (JE (ln:=(Pl.pO D.sz a i-a)) (hn:=n_s) rfl sl22.h ⟨_,rfl⟩ rfl (by omega) (by omega) (fun h=>ha_s.spot (by omega))) ?_
   refine au 2 ?_
   refine Ja rfl rfl (y_v (JE (ln:=0) (hn:=(Pl.pL D.sz a BB.length i)) rfl sl22.h rfl ⟨_,rfl⟩ (by omega) (by omega) (fun h ad e=>XX (fun h2=>ha_s.spot (by omega)) (by omega) e)) (show _=Value.slice (slp p_s cap_s (Pl.pO D.sz a i-a) 1) (Pl.pL D.sz a BB.length i) (cap_s-(Pl.pO D.sz a i-a)) by rw [slp_slp0 ha_s.spot]; rfl)) ?_
   refine cB rfl rfl rfl (C.as (v:=.int .i64 (D.sz:Int)) (Xt D9 m Z9 _ (Jr.mid (A:=[_,_,_,_,_,_,_,_,_,_,_,_]) hm.Jz) hz9) (by rw [hsz])) hm hh fun w hm hh=>?_
   refine Ja rfl rfl (Vy rfl rfl (mulN (by omega))) ?_
   refine Ja rfl rfl (QR rfl rfl (subK _ (by omega) (by omega))) ?_
   refine Ja rfl rfl (JE (ln:=(Pl.pO D.sz a i-i*D.sz)) (hn:=D.sz) rfl sl22.h ⟨_,rfl⟩ rfl (by omega) (by omega) (fun h=>ha_v.spot (by omega))) ?_
   refine au 1 ?_
   refine a_copyL (o:=Pl.pO D.sz a i-i*D.sz) (src:=(((BB.drop (Pl.pO D.sz a i-a)).take (Pl.pL D.sz a BB.length i)).flatMap Jk)) rfl rfl rfl rfl rfl sl22.h (by omega) ((ha_s.rd hm 8 rfl).sub hsle) (by rw [J0,Lg,Lm]; omega) (Zl _) ha_v hm 0 rfl fun b_v w ha_v hm=>?_
   rw [Y0 (by rw [hvl,Lg,Lm]; omega),Pl.secX_put o1 hvl hlo hhi] at ha_v
   refine Qc ?_
   refine QV ?_
   refine Qb rfl ?_
   refine JT (.pure 0 (.pure 1 (.pure 2 (.act 3 (.pure 4 .done))))) (by kernel_rfl) ?_
   refine Ja rfl rfl (Jh rfl sc67.h (hm.nt 11 rfl) rfl) ?_
   refine Ja rfl rfl (Jx rfl) ?_
   refine Ja rfl rfl (Jx rfl) ?_
   refine cT rfl rfl rfl (C.eqv (o_write D9 m Z9 _ (Jr.mid (A:=[_,_,_,_,_,_,_,_,_,_,_,_]) hm.Jz) hz9 p_v cap_v (Pl.VK D.sz (Pl.rdS D9 (i:Int)) a BB i) (i:Int) (ha_v.rd hm 0 rfl) (fun h ad e h9=>hm.notR (A:=[_,_,_,_,_,_,_,_,_,_,_,_]) ha_v 0 rfl h ad e (Mn_left h9)) (by rw [Pl.Xp]; exact hvle) (by omega)) (by rw [Pl.Xp]; rfl)) fun v w hR=>?_
   obtain ⟨rfl,Z2,hz2,hmc⟩:=hR
   replace hm:=Mem.callM (A:=[_,_,_,_,_,_,_,_,_,_,_,_]) hm hmc
   refine au 9 ?_
   refine cd (fun hc2=>?_) fun hc2=>?_
   ·
    simp only [dT] at hc2
    have hRR:(Pl.wrS a BB (Pl.sN D.sz a BB.length) (Pl.sF D.sz a BB.length) D)=(Pl.Yt D9 (i:Int) (Pl.VK D.sz (Pl.rdS D9 (i:Int)) a BB i),Pl.wDv D9 (i:Int) (Pl.VK D.sz (Pl.rdS D9 (i:Int)) a BB i)):=by rw [hR9,show (Pl.sF D.sz a BB.length+Pl.sN D.sz a BB.length)-i=((Pl.sF D.sz a BB.length+Pl.sN D.sz a BB.length)-(i+1))+1 by omega]; unfold Pl.wrS; rw [LH (by omega),hsz,LI hc2]
    refine au 3 ?_
    refine st hm 9 fun w hm=>?_
    refine au 4 ?_
    refine g_ret hm 2 rfl fun w hm=>?_
    first | exact .inr ⟨rfl,_,Z2,F,_,(hm.Jp [2,3,4,5,6,7,8,9,10,11] 12 rfl),hz2,hRR⟩ | exact .inr ⟨rfl,_,Z9,F,_,(hm.Jp [2,3,4,5,6,7,8,9,10,11] 12 rfl),hz9,hRR⟩
   ·
    simp only [dF,Decidable.not_not] at hc2
    have hRR:(Pl.wrS a BB (Pl.sN D.sz a BB.length) (Pl.sF D.sz a BB.length) D)=Pl.wrS a BB ((Pl.sF D.sz a BB.length+Pl.sN D.sz a BB.length)-(i+1)) (i+1) (Pl.wDv D9 (i:Int) (Pl.VK D.sz (Pl.rdS D9 (i:Int)) a BB i)):=by rw [hR9,show (Pl.sF D.sz a BB.length+Pl.sN D.sz a BB.length)-i=((Pl.sF D.sz a BB.length+Pl.sN D.sz a BB.length)-(i+1))+1 by omega]; conv=>lhs; unfold Pl.wrS; rw [LH (by omega),hsz,LH (by omega)]
    have hws:=Pl.wDv_sz D9 (i:Int) (Pl.VK D.sz (Pl.rdS D9 (i:Int)) a BB i)
    refine au 2 ?_
    refine g_end hm 2 rfl fun w hm=>?_
    exact .inl ⟨rfl,_,Z2,(hm.Jp [2,3,4,5,6,7,8,9,10,11] 12 rfl),hz2,hRR,hws.1.trans hsz,hws.2.1.trans hct,by omega⟩
 ·
  subst hLB
  obtain ⟨-,⟨F,D9,Z9,hm,hz9,hR9,hsz,hct,hca⟩ | ⟨D9,Z9,F,c9,hm,hz9,hRR⟩⟩:=hR
  ·
   have hRR:(Pl.wrS a BB (Pl.sN D.sz a BB.length) (Pl.sF D.sz a BB.length) D)=(0,D9):=by rw [hR9,Nat.sub_self]; rfl
   refine ⟨.ready,none,nofun,hm.get (k:=0) rfl,fun w4 hw4=>?_⟩
   replace hm:=Xw hm hw4
   refine au 4 ?_
   refine st hm 6 fun w hm=>?_
   refine au 3 ?_
   refine toR (fin1 Je rfl hm 0 rfl .one fun w hm=>⟨(.cell rfl (JN sc35.h (hm.get (k:=6) rfl) rfl) .nil),?_⟩)
   exact ⟨by rw [hRR],Z9,by rw [hRR]; exact hz9,Mem.left (L:=Z9) (hm.Jp [] 9 rfl)⟩
  ·
   refine ⟨.done,some .ret,nofun,hm.get (k:=0) rfl,fun w4 hw4=>?_⟩
   replace hm:=Xw hm hw4
   refine au 3 ?_
   refine toR (fin1 Je rfl hm 0 rfl .one fun w hm=>⟨(.cell rfl (JN sc35.h (hm.get (k:=6) rfl) rfl) .nil),?_⟩)
   exact ⟨by rw [hRR],Z9,by rw [hRR]; exact hz9,Mem.left (L:=Z9) (hm.Jp [] 9 rfl)⟩
theorem Pl.QG{α:Type}{l:List α}{i:Nat}{x:α}(h:l[i]?=some x):l.take (i+1)=l.take i++[x]:=by rw [LC,h]; rfl
end Go.Proofs.YtaehgpeenaomcaaGreat
