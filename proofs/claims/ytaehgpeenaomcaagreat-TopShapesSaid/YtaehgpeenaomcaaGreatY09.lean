/- Part 10 of the proof of TopShapes: Ix IxB. Conditions: the hypotheses of each theorem. -/
import Derived.Test.YtaehgpeenaomcaaGreatY08
import Derived.Test.YtaehgpeenaomcaaGreatChecked
set_option maxRecDepth 10000
set_option maxHeartbeats 4000000
set_option linter.unusedVariables false
set_option linter.unusedSimpArgs false
namespace Go.Proofs.YtaehgpeenaomcaaGreat
open Go Go.Cx
theorem Qp{w w':World}{m:Nat}{o:Obj}(hx:Ext No w w')(h:w.heap[m]?=some o):w'.heap[m]?=some o:=(hx.same _ (Lb.1 h).1 id).trans h
end Go.Proofs.YtaehgpeenaomcaaGreat
namespace Go.Cx
open Go Go.Cx Go.Proofs.YtaehgpeenaomcaaGreat
def encN(x:Int×Int×Int):List Value:=[.int .i64 x.1,.int .i64 x.2.1,.int .i64 x.2.2]
theorem Q8(x:Int×Int×Int):(encN x).length=3:=rfl
end Go.Cx
namespace Go.Pl
open Go Go.Cx Go.Proofs.YtaehgpeenaomcaaGreat
def Xy(x:Int×Int×Int):Int:=x.1+x.2.1
def ovl3(a b:Int)(x:Int×Int×Int):Bool:=(Pl.overlap x.1 x.2.1 a b).isSome
def hits(es:List (Int×Int×Int))(a b:Int):List (Int×Int×Int):=(es.dropWhile fun x=>decide (Pl.Xy x≤a)).takeWhile (Pl.ovl3 a b)
def ZB(x:Int×Int×Int):Prop:=0≤x.1∧0≤x.2.1∧x.1+x.2.1≤4611686018427387903
def up3(es:List (Int×Int×Int)):Prop:=∀ (i j:Nat) x y,i≤j→es[i]?=some x→es[j]?=some y→Pl.Xy x≤Pl.Xy y
end Go.Pl
namespace Go.Proofs.YtaehgpeenaomcaaGreat
open Go Go.Cx
theorem tw_hit{α:Type}{p:α→Bool}:∀ {l:List α} {k:Nat} {x:α},k≤(l.takeWhile p).length→l[k]?=some x→p x=true→(l.takeWhile p)[k]?=some x
 | [],k,x,_,h,_=>by simp at h
 | a::r,k,x,hk,h,hp=>by
  cases ha:p a with
  | false => 
   rw [List.takeWhile_cons,ha] at hk
   obtain rfl:k=0:=by simpa using hk
   simp only [L2,Option.some.injEq] at h
   subst h
   rw [ha] at hp; cases hp
  | true=>
   rw [List.takeWhile_cons,ha] at hk ⊢
   cases k with
   | zero=>simpa using h
   | succ k=>
    simp only [if_true,Li,LW] at hk h ⊢
    exact tw_hit (by omega) h hp
theorem tw_miss{α:Type}{p:α→Bool}:∀ {l:List α} {k:Nat} {x:α},k≤(l.takeWhile p).length→l[k]?=some x→p x=false→(l.takeWhile p).length=k
 | [],k,x,_,h,_=>by simp at h
 | a::r,k,x,hk,h,hp=>by
  cases ha:p a with
  | false => 
   rw [List.takeWhile_cons,ha] at hk ⊢
   have:k=0:=by simpa using hk
   simp [this]
  | true=>
   rw [List.takeWhile_cons,ha] at hk ⊢
   cases k with
   | zero => 
    simp only [L2,Option.some.injEq] at h
    subst h
    rw [ha] at hp; cases hp
   | succ k=>
    simp only [if_true,Li,LW] at hk h ⊢
    rw [tw_miss (by omega) h hp]
theorem tw_end{α:Type}{p:α→Bool}{l:List α}{k:Nat}(hk:k≤(l.takeWhile p).length)(h:l.length≤k):(l.takeWhile p).length=k:=by
 have:=(List.takeWhile_sublist p (l:=l)).length_le
 omega
theorem dw_at{α:Type}{p:α→Bool}:∀ {l:List α} {r:Nat},r≤l.length→(∀ j x,j<r→l[j]?=some x→p x=true)→(∀ x,l[r]?=some x→p x=false)→l.dropWhile p=l.drop r
 | [],r,_,_,_=>by simp
 | a::t,0,_,_,h=>by rw [List.dropWhile_cons,h a rfl]; rfl
 | a::t,r+1,hr,hj,h=>by
  rw [List.dropWhile_cons,hj 0 a (by omega) rfl]
  simp only [if_true,List.drop_succ_cons]
  exact dw_at (by simpa using hr) (fun j x h1 h2=>hj (j+1) x (by omega) h2) h
end Go.Proofs.YtaehgpeenaomcaaGreat
namespace Go.Pl
open Go Go.Cx Go.Proofs.YtaehgpeenaomcaaGreat
def aft(es:List (Int×Int×Int))(a:Int)(k:Nat):Bool:=match es[k]? with | some x=>decide (Pl.Xy x>a) | none=>true
end Go.Pl
namespace Go.Proofs.YtaehgpeenaomcaaGreat
open Go Go.Cx
theorem aft_mono{es:List (Int×Int×Int)}(h:Pl.up3 es)(a:Int):∀ j k,j≤k→Pl.aft es a j=true→Pl.aft es a k=true:=fun j k hjk hj=>by
 unfold Pl.aft at *
 cases hk:es[k]? with
 | none=>rfl
 | some y=>
  cases hx:es[j]? with
  | none => 
   have:=List.getElem?_eq_none_iff.1 hx
   have:=(Le.1 hk).1
   omega
  | some x=>
   rw [hx] at hj
   have:=h j k x y hjk hx hk
   simp only [dT] at *
   omega
theorem aft_drop{es:List (Int×Int×Int)}{a:Int}{r:Nat}(hr:r≤es.length)(h1:∀ j,j<r→Pl.aft es a j=false)(h2:r<es.length→Pl.aft es a r=true):es.dropWhile (fun x=>decide (Pl.Xy x≤a))=es.drop r:=by
 refine dw_at hr (fun j x hj hx=>?_) fun x hx=>?_
 · have:=h1 j hj
   unfold Pl.aft at this
   rw [hx] at this
   simp only [dF,dT] at *
   omega
 · have:=h2 (Le.1 hx).1
   unfold Pl.aft at this
   rw [hx] at this
   simp only [dF,dT] at *
   omega
theorem i_len(mi:Nat)(q:Option Addr)(c:Nat)(es:List (Int×Int×Int))(w0:World)(hi0:w0.heap[mi]?=some (Blk.row 297 [.slice q es.length c]).Jd)(hq:Rd w0 q (es.flatMap encN))(hl:es.length≤1000000)(hok:∀ x∈es,Pl.ZB x):C Tryz.prog 198 [.pointer (some ⟨mi,0,none⟩)] w0 fun v w'=>v=.int .i64 es.length∧Ext No w0 w':=by
 refine C_o Tryz.func198 fun κ _ Je Jc hm=>?_
 refine au 27 ?_
 exact ⟨rfl,hm.to⟩
theorem i_after1(mi:Nat)(q:Option Addr)(c:Nat)(es:List (Int×Int×Int))(w0:World)(hi0:w0.heap[mi]?=some (Blk.row 297 [.slice q es.length c]).Jd)(hq:Rd w0 q (es.flatMap encN))(hl:es.length≤1000000)(hok:∀ x∈es,Pl.ZB x)(m1 m2 k:Nat)(a:Int)(x:Int×Int×Int)(hb1:w0.heap[m1]?=some (Blk.row 196 [.pointer (some ⟨mi,0,none⟩)]).Jd)(hb2:w0.heap[m2]?=some (Blk.row 3 [.int .i64 a]).Jd)(hx:es[k]?=some x):C Tryz.prog 242 [.int .i64 (k:Int),.pointer (some ⟨m1,0,none⟩),.pointer (some ⟨m2,0,none⟩)] w0 fun v w'=>v=.bool (decide (Pl.Xy x>a))∧Ext No w0 w':=by
 obtain ⟨qb,qo,rfl⟩:=hq.atI Q8 (by decide) hx
 have hlt:=(Le.1 hx).1
 have hox:=hok x (Ld hx)
 unfold Pl.ZB at hox
 refine C_o Tryz.func242 fun κ _ Je Jc hm=>?_
 refine au 6 ?_
 refine dw [0,3,6,9,12,15,18,21,27,25,30,33] hm fun w hw hm0 hh hm=>?_
 refine au 7 ?_
 refine Ja rfl rfl (y_elAS (vs:=[_,_]) rfl ag32.h (hq.Jj hm0.to).nd Q8 hx rfl rfl) ?_
 refine au 1 ?_
 refine cB rfl rfl rfl (QC x.1 x.2.1 _ (by simp only [Pl.I64]; omega)) hm hh fun w hm hh=>?_
 refine au 6 ?_
 exact ⟨rfl,hm.to⟩
theorem i_after(mi:Nat)(q:Option Addr)(c:Nat)(es:List (Int×Int×Int))(w0:World)(hi0:w0.heap[mi]?=some (Blk.row 297 [.slice q es.length c]).Jd)(hq:Rd w0 q (es.flatMap encN))(hl:es.length≤1000000)(hok:∀ x∈es,Pl.ZB x)(a:Int)(hup:Pl.up3 es):C Tryz.prog 197 [.pointer (some ⟨mi,0,none⟩),.int .i64 a] w0 fun v w'=>∃ r:Nat,v=.int .i64 r∧r≤es.length∧es.dropWhile (fun x=>decide (Pl.Xy x≤a))=es.drop r∧Ext No w0 w':=by
 refine C_o Tryz.func197 fun κ _ Je Jc hm=>?_
 refine au 2 ?_
 refine bT hm fun m1 w hm=>?_
 refine bT hm fun m2 w hm=>?_
 refine au 6 ?_
 refine cA rfl rfl rfl (i_len mi q c es _ (Qp hm.to hi0) (hq.Jj hm.to) hl hok) hm fun w hm=>?_
 refine au 1 ?_
 refine ca rfl rfl rfl (search es.length 242 _ (Pl.aft es a) _ (by omega) go242 (fun k w1 hk hx1=>by
  obtain ⟨x,hx⟩:∃ y_,es[k]?=some y_:=⟨_,La hk⟩
  exact (i_after1 mi q c es w1 (Qp (hm.to.trans hx1) hi0) (hq.Jj (hm.to.trans hx1)) hl hok m1 m2 k a x (Qp hx1 (hm.get (k:=1) rfl)) (Qp hx1 (hm.get (k:=0) rfl)) hx).mono fun v w2 h9=>⟨by rw [h9.1]; unfold Pl.aft; rw [hx],h9.2⟩) (aft_mono hup a)) fun v w hR=>?_
 obtain ⟨r,rfl,hr1,hr2,hr3,hE⟩:=hR
 refine ⟨trivial,?_⟩
 replace hm:=hm.ext hE
 refine au 5 ?_
 exact ⟨r,rfl,hr1,aft_drop hr1 hr2 hr3,hm.to⟩
theorem i_over1(mi:Nat)(q:Option Addr)(c:Nat)(es:List (Int×Int×Int))(m1 m2 yl:Nat)(a b:Int)(I:List (Nat×Blk)→Nat→World→Prop)(F0:List (Nat×Blk))(w0:World)(hl:es.length≤1000000)(hok:∀ x∈es,Pl.ZB x)(hup:Pl.up3 es)(hab:0≤a∧0≤b∧a+b≤4611686018427387903)
 (hrow:∀ F i w,I F i w→w.heap[m1]?=some (Blk.row 196 [.pointer (some ⟨mi,0,none⟩)]).Jd∧w.heap[m2]?=some (Blk.row 32 [.int .i64 a,.int .i64 b]).Jd∧w.heap[mi]?=some (Blk.row 297 [.slice q es.length c]).Jd∧Rd w q (es.flatMap encN))
 (hext:∀ F i w w' N,I F i w→Mem w w' No N→I (F++N) i w')
 (hy:∀ F i w x,I F i w→(Pl.hits es a b)[i]?=some x→Yw Tryz.prog yl [.int .i64 x.2.2,.agg ⟨exV (Pl.overlap x.1 x.2.1 a b)⟩] w fun v w'=>v=.bool true∧I F (i+1) w') (h0:I F0 0 w0):C Tryz.prog 196 [.func (.yield yl) #[] #[],.pointer (some ⟨m1,0,none⟩),.pointer (some ⟨m2,0,none⟩)] w0 fun v w'=>v=.tuple ⟨[]⟩∧∃ F,I F (Pl.hits es a b).length w':=by
 refine C_o Tryz.func196 fun κ _ Je Jc hm=>?_
 refine au 2 ?_
 refine Ja rfl rfl (Jh rfl sc196.h (Qo ((hm.to.same _ (Lb.1 (hrow _ _ _ h0).1).1 id).trans (hrow _ _ _ h0).1)) rfl) ?_
 refine au 1 ?_
 refine Ja rfl rfl (Jh rfl sc3.h (Qo ((hm.to.same _ (Lb.1 (hrow _ _ _ h0).2.1).1 id).trans (hrow _ _ _ h0).2.1)) rfl) ?_
 refine cT rfl rfl rfl (i_after mi q c es _ (Qp hm.to (hrow _ _ _ h0).2.2.1) ((hrow _ _ _ h0).2.2.2.Jj hm.to) hl hok a hup) fun v w hR=>?_
 obtain ⟨r,rfl,hr1,hr2,hE⟩:=hR
 replace hm:=hm.ext hE
 have hh9:(Pl.hits es a b)=(es.drop r).takeWhile (Pl.ovl3 a b):=by unfold Pl.hits; rw [hr2]
 refine au 4 ?_
 refine Jg (ι:=List (Nat×Blk)×Nat) rfl (ks:=[0,1,2]) (.cons rfl (.cons rfl (.cons rfl .nil))) (fun x=>[(4,.int .i64 ((r+x.2:Nat):Int))]) (fun x w=>I x.1 x.2 w∧x.2≤(Pl.hits es a b).length) (fun x=>(Pl.hits es a b).length-x.2) (F0++_,0) (⟨hext _ _ _ _ _ h0 hm,LL _⟩) ⟨rfl,trivial⟩ (fun x w hM=>?_)
 obtain ⟨w9,rfl⟩:∃ u,u=w:=⟨w,rfl⟩
 obtain ⟨hI,hk⟩:=hM
 have hm:=Mem.start w9
 obtain ⟨hR1,hR2,hR3,hR4⟩:=hrow _ _ _ hI
 refine au 5 ?_
 refine cA rfl rfl rfl (i_len mi q c es _ (Qp hm.to hR3) (hR4.Jj hm.to) hl hok) hm fun w hm=>?_
 refine au 3 ?_
 refine cd (fun hc0=>?_) fun hc0=>?_
 ·
  simp only [dT] at hc0
  obtain ⟨x3,hx⟩:∃ y_,es[r+x.2]?=some y_:=⟨_,La (by omega)⟩
  obtain ⟨qb,qo,rfl⟩:=hR4.atI Q8 (by decide) hx
  have hox:=hok x3 (Ld hx)
  unfold Pl.ZB at hox
  have hxd:(es.drop r)[x.2]?=some x3:=by rw [Kc]; exact hx
  refine au 4 ?_
  refine Xc (ι:=Nat) rfl (ks:=[0,1,2,4]) (.cons rfl (.cons rfl (.cons rfl (.cons rfl .nil)))) (fun m5=>[(5,.pointer (some ⟨m5,0,none⟩)),(6,.bool (Pl.overlap x3.1 x3.2.1 a b).isSome)]) (fun m5 w=>Mem w9 w No [(m5,.row 32 (exV (Pl.overlap x3.1 x3.2.1 a b)))]) ?_ (fun m5 w hM=>?_)
  ·
   refine JS (.pure 0 (.pure 1 (.pure 2 (.pure 3 (.pure 4 (.pure 5 (.pure 6 (.pure 7 (.pure 8 (.act2 9 (.pure 10 (.pure 11 (.pure 12 (.act 13 (.cut (.act 14 (.pure 15 .done))))))) 13 (.act 9 (.pure 10 (.pure 11 (.pure 12 (.cut (.act 14 (.pure 15 .done))))))))))))))))) No mix (by kernel_rfl) hm fun w hw hm0 hh=>?_
   have hm:=hm0
   refine au 7 ?_
   refine Ja rfl rfl (y_elAS (vs:=[_,_]) rfl ag32.h (hR4.Jj hm0.to).nd Q8 hx rfl rfl) ?_
   refine Ja rfl rfl (Jm (s:=2) (vs:=[_,_]) rfl ag32.h (fun u hu=>((hm0.to.trans hu).same _ (Lb.1 hR2).1 id).trans hR2) rfl) ?_
   refine QN ?_ ?_
   ·
    refine cB rfl rfl rfl (Q7 x3.1 x3.2.1 a b _ (by omega) (by omega)) hm hh fun w hm hh=>?_
    refine au 3 ?_
    refine al hm hh fun m5 w hg_m5 hm hh=>?_
    refine au 1 ?_
    refine st hm 0 fun w hm=>?_
    refine au 2 ?_
    exact Qt m5 hm ⟨rfl,rfl,rfl,rfl,rfl,rfl,trivial⟩
   ·
    refine al hm hh fun m5 w hg_m5 hm hh=>?_
    refine cB rfl rfl rfl (Q7 x3.1 x3.2.1 a b _ (by omega) (by omega)) hm hh fun w hm hh=>?_
    refine au 4 ?_
    refine st hm 0 fun w hm=>?_
    refine au 2 ?_
    exact Qt m5 hm ⟨rfl,rfl,rfl,rfl,rfl,rfl,trivial⟩
  ·
   have hm:=hM
   refine au 1 ?_
   cases hov:Pl.overlap x3.1 x3.2.1 a b
   ·
    have hke:(Pl.hits es a b).length=x.2:=by rw [hh9] at hk ⊢; exact tw_miss hk hxd (by unfold Pl.ovl3; rw [hov]; rfl)
    refine dw [0,3,6,9,12,15,18,21,24,27,30,33,36,2,40,42,45] hm fun w hw hm0 hh hm=>?_
    refine au 25 ?_
    refine toR (fin Je rfl .nil .nil ?_)
    exact ⟨rfl,_,by rw [hke]; exact hext _ _ _ _ _ hI hm⟩
   ·
    have hx2:(Pl.hits es a b)[x.2]?=some x3:=by rw [hh9] at hk ⊢; exact tw_hit hk hxd (by unfold Pl.ovl3; rw [hov]; rfl)
    have hxl:=(Le.1 hx2).1
    refine dw [0,3,6,9,12,15,18,21,24,27,30,33,36,2,40,42,45] hm fun w hw hm0 hh hm=>?_
    refine au 11 ?_
    refine Ja rfl rfl (Yr rfl sc3.h (hR4.Jj hm0.to).nd Q8 hx rfl) ?_
    refine au 2 ?_
    have hI2:=hext _ _ _ _ _ hI hm
    have hy9:=hy _ _ _ x3 hI2 hx2
    refine XM rfl rfl rfl rfl hy9 fun v w hR=>?_
    refine ⟨trivial,?_⟩
    obtain ⟨rfl,hI3⟩:=hR
    refine au 13 ?_
    exact next (x.1++_,x.2+1) (by simp only; omega) ⟨hI3,by simp only; omega⟩ ⟨nx (r+x.2),rfl,rfl,rfl,trivial⟩
 ·
  simp only [dF] at hc0
  have hke:(Pl.hits es a b).length=x.2:=by rw [hh9] at hk ⊢; exact tw_end hk (by rw [Lm]; omega)
  refine au 4 ?_
  refine toN (fin Jc rfl .nil .nil ?_)
  exact ⟨rfl,_,by rw [hke]; exact hext _ _ _ _ _ hI hm⟩
theorem i_over(p:Option Addr)(a b:Value)(w0:World):C Tryz.prog 156 [.pointer p,.agg ⟨[a,b]⟩] w0 fun v w'=>∃ m1 m2,v=.func (.func 196) #[] ⟨[.pointer (some ⟨m1,0,none⟩),.pointer (some ⟨m2,0,none⟩)]⟩∧Mem w0 w' No [(m1,.row 196 [.pointer p]),(m2,.row 32 [a,b])]:=by
 refine C_o Tryz.func156 fun κ _ Je Jc hm=>?_
 refine au 2 ?_
 refine bT hm fun m1 w hm=>?_
 refine bT hm fun m2 w hm=>?_
 refine au 11 ?_
 exact ⟨_,_,rfl,hm.pick [1,0] rfl⟩
theorem i_meet(mi:Nat)(q:Option Addr)(c:Nat)(es:List (Int×Int×Int))(w0:World)(hi0:w0.heap[mi]?=some (Blk.row 297 [.slice q es.length c]).Jd)(hq:Rd w0 q (es.flatMap encN))(hl:es.length≤1000000)(hok:∀ x∈es,Pl.ZB x)(a b:Int)(hup:Pl.up3 es)(hab:0≤a∧0≤b∧a+b≤4611686018427387903):C Tryz.prog 125 [.pointer (some ⟨mi,0,none⟩),.agg ⟨[.int .i64 a,.int .i64 b]⟩] w0 fun v w'=>∃ p n cap g b9,v=.slice p n cap∧Acc 3 1 p n cap (((Pl.hits es a b).map fun x=>x.2.2).flatMap encI) g b9∧Mem w0 w' No [(g,b9)]:=by
 refine Zt Tryz.func125 rfl rfl rfl fun κ _ Je Jc=>?_
 have hm:=Mem.start w0
 refine au 2 ?_
 refine bT hm fun m1 w hm=>?_
 refine au 5 ?_
 refine aT hm fun m3 w hm=>?_
 replace hm:=hm.JP
 have ha_u:=Acc.nil 3 1 none 0
 refine au 7 ?_
 refine cT rfl rfl rfl (i_over _ _ _ _) fun v w hR=>?_
 obtain ⟨qa,qb,rfl,hmc⟩:=hR
 replace hm:=hm.Jt hmc
 refine au 3 ?_
 refine VJ rfl rfl go196 hm fun a_ fn r0 l w LB hLB hfr hl_ hs_ hm=>?_
 refine C.mono (i_over1 mi q c es qa qb l a b (fun F i w=>∃ (p:Option Addr) (n cap g:Nat) (b9:Blk),Mem w0 w No ((l,LB .ready none)::(r0,dblk (some []))::(qa,.row 196 [.pointer (some ⟨mi,0,none⟩)])::(qb,.row 32 [.int .i64 a,.int .i64 b])::(g,b9)::(m3,.row 134 [.slice p n cap])::(m1,.row 32 [.int .i64 a,.int .i64 b])::F)∧Acc 3 1 p n cap ((((Pl.hits es a b).take i).map fun x=>x.2.2).flatMap encI) g b9∧n=i) [] _ hl hok hup hab
  (by rintro F i w ⟨p,n,cap,g,b9,hm,-⟩; exact ⟨hm.get (k:=2) rfl,hm.get (k:=3) rfl,Qp hm.to hi0,hq.Jj hm.to⟩)
  (by rintro F i w w' N ⟨p,n,cap,g,b9,hm,ha,hn⟩ hc; exact ⟨p,n,cap,g,b9,Mem.callT (N1:=[]) hm hc,ha,hn⟩)
  (fun F i w x hI hx1=>?_) ⟨_,_,_,_,_,hm,ha_u,rfl⟩) (fun v w hR=>?_)
 ·
  subst hLB
  obtain ⟨p_u,n_u,cap_u,g_u,b_u,hm,ha_u,hnu⟩:=hI
  have hil:=(Le.1 hx1).1
  have hhl:(Pl.hits es a b).length≤es.length:=Ki (List.takeWhile_sublist _).length_le (List.dropWhile_sublist _).length_le
  refine Yw.of hfr (hm.get (k:=0) rfl) rfl rfl ?_
  refine au 3 ?_
  refine Xf hm 0 rfl fun w hm=>?_
  refine XC rfl ?_
  refine JT (.pure 0 (.pure 1 (.act 2 (.act 3 (.act 4 .done))))) (by kernel_rfl) ?_
  refine Ja rfl rfl (Jh rfl sc134.h (hm.nt 5 rfl) rfl) ?_
  refine Ja rfl rfl (Jx rfl) ?_
  refine Jb (l:=[_]) rfl rfl sl134.h z3.h rfl rfl rfl rfl rfl rfl rfl hm trivial fun m2 w hg_m2 hm hh=>?_
  refine Jy rfl rfl rfl rfl rfl rfl sl134.h sl134.h z3.h rfl rfl (Rd.JL (hm.get (k:=0) rfl)) rfl ha_u hm 5 rfl (by omega) (by omega) fun p_u cap_u g_u b_u w ha_u hm=>?_
  refine st hm 6 fun w hm=>?_
  refine au 2 ?_
  refine g_end hm 1 rfl fun w hm=>?_
  refine ⟨rfl,p_u,_,cap_u,g_u,b_u,(hm.Jp [1,2,3,4,5,6,7] 8 rfl),ha_u.to ?_,by omega⟩
  rw [LC,hx1,Lx,Lh]; rfl
 ·
  subst hLB
  obtain ⟨rfl,F,p_u,n_u,cap_u,g_u,b_u,hm,ha_u,hnu⟩:=hR
  rw [Lv] at ha_u
  refine ⟨.ready,none,nofun,hm.get (k:=0) rfl,fun w4 hw4=>?_⟩
  replace hm:=Xw hm hw4
  refine au 9 ?_
  refine toR (fin1 Je rfl hm 0 rfl .one fun w hm=>⟨(.tmp rfl .nil),?_⟩)
  exact ⟨_,_,_,_,_,rfl,ha_u,(hm.pick [3] rfl)⟩
end Go.Proofs.YtaehgpeenaomcaaGreat
