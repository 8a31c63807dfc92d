/- Part 12 of the proof of TopBack: Seq DgA DgB DgC DgD DgE CfA CfB ToA ToB VcA VcB VcC CvA CvB. Conditions: the hypotheses of each theorem. -/
import Derived.Test.YtaehgpeenaomcaaGreatV10
import Derived.Test.YtaehgpeenaomcaaGreatChecked
set_option maxRecDepth 10000
set_option maxHeartbeats 4000000
set_option linter.unusedVariables false
set_option linter.unusedSimpArgs false
namespace Go.Proofs.YtaehgpeenaomcaaGreat
open Go Go.Cx
end Go.Proofs.YtaehgpeenaomcaaGreat
namespace Go.Cx
open Go Go.Cx Go.Proofs.YtaehgpeenaomcaaGreat
def uO(P:Program)(fs:FuncId)(lb:Ti)(xs:Tj)(Wd:World→Prop):Prop:=∀ (yl:Nat) (I:Tf→Tj→World→Prop) (w0:World),(∀ F ys w,I F ys w→Wd w∧Jr w F) →
 (∀ Z Z' F ys w w',I (Z++F) ys w→Mem w w' (Mn (ak Z)) Z'→I (Z'++F) ys w')→(∀ F ys x w,I F ys w→ys.length<xs.length→Yw P yl [.int .i64 x] w fun v w'=>v=.bool true∧I F (ys++[x]) w')→I [] [] w0 →
 C P fs (.func (.yield yl) #[] #[]::lb) w0 fun v w'=>v=.tuple ⟨[]⟩∧∃ F ys,ys.Perm xs∧I F ys w'
end Go.Cx
namespace Go.Proofs.YtaehgpeenaomcaaGreat
open Go Go.Cx
theorem AM(m1:Nat)(p:Tg)(cap:Nat)(xs:Tj)(yl:Nat)(I:Tf→Tj→World→Prop)(w0:World)(hl:xs.length≤1000000)
 (eu:∀ F ys w,I F ys w→(w.heap[m1]?=some (ag.row 134 [.slice p xs.length cap]).Jd∧Rd w p (xs.flatMap Cx.encI))∧Jr w F) (c6:∀ Z Z' F ys w w',I (Z++F) ys w→Mem w w' (Mn (ak Z)) Z'→I (Z'++F) ys w')
 (hy:∀ F ys x w,I F ys w→ys.length<xs.length→Yw Tryz.prog yl [.int .i64 x] w fun v w'=>v=.bool true∧I F (ys++[x]) w') (h0:I [] [] w0):C Tryz.prog 248 [.func (.yield yl) #[] #[],.pointer (some ⟨m1,0,none⟩)] w0 fun v w'=>v=.tuple ⟨[]⟩∧∃ F ys,ys.Perm xs∧I F ys w':=by
 refine aH Tryz.func248 fun κ _ Je Jc hm=>?_
 refine au 2 ?_
 refine Ja rfl rfl (Jh rfl sc134.h (Qo ((hm.to.same _ (Lb.1 (eu _ _ _ h0).1.1).1 id).trans (eu _ _ _ h0).1.1)) rfl)<|au 5 ?_
 refine Jg (ι:=Nat) rfl (ks:=[0,5,6]) Tn (fun x=>[(7,.int .i64 (x:Int))]) (fun x w=>I [] (xs.take x) w∧x≤xs.length) (fun x=>xs.length-x) 0 (⟨c6 [] [] [] _ _ _ h0 hm.Ax,LL _⟩) Tm (fun x w hM=>?_)
 obtain ⟨k,rfl⟩:∃ k,x=k:=⟨_,rfl⟩
 obtain ⟨hI,hk⟩:=hM
 have hm:=Mem.start w
 obtain ⟨⟨hR1,Br⟩,hR3⟩:=eu _ _ _ hI
 refine au 6 ?_
 refine cd (fun ai=>?_) fun ai=>?_
 ·
  simp only [dT] at ai
  obtain ⟨z,hi⟩:∃ y_,xs[x]?=some y_:=⟨_,La Ta⟩
  obtain ⟨qb,qo,rfl⟩:=Br.bS Jq Tb hi
  refine au 7 ?_
  refine Ja rfl rfl (J3 rfl sc3.h (Br.Jj hm.to).nt Jq hi rfl)<|au 7 ?_
  have yf:=c6 [] [] _ _ _ _ hI hm.Ax
  refine XM rfl rfl rfl rfl (hy _ _ z _ yf (by rw [Lg]; omega)) fun v w hR=>⟨trivial,?_⟩
  obtain ⟨rfl,N9⟩:=hR
  have hm:=Mem.start w
  refine au 11 ?_
  refine next (x+1) Ta ⟨c6 [] [] [] _ _ _ (by rw [QG hi]; exact N9) hm.Ax,Ta⟩ ⟨nx x,Tm⟩
 ·
  simp only [dF] at ai
  have b8:x=xs.length:=by omega
  subst b8
  rw [Lv] at hI
  refine au 4 ?_
  refine eK (fin Jc rfl .nil .nil ?_)
  exact ⟨rfl,_,_,List.Perm.refl _,hI⟩
theorem ij(m1:Nat)(p:Tg)(cap:Nat)(xs:Tj)(hl:xs.length≤1000000):uO Tryz.prog 248 [.pointer (some ⟨m1,0,none⟩)] xs fun w=>w.heap[m1]?=some (ag.row 134 [.slice p xs.length cap]).Jd∧Rd w p (xs.flatMap Cx.encI):=fun yl I w0 h1 h2 h3 h4=>AM m1 p cap xs yl I w0 hl h1 h2 h3 h4
theorem uP(p:Tg)(n cap:Nat)(w0:World):C Tryz.prog 206 [.slice p n cap] w0 fun v w'=>∃ m1,v=.func (.func 248) #[] ⟨[.pointer (some ⟨m1,0,none⟩)]⟩∧Mem w0 w' No [(m1,.row 134 [.slice p n cap])]:=by
 refine aH Tryz.func206 fun κ _ Je Jc hm=>?_
 refine au 2 ?_
 refine bT hm fun m1 w hm=>?_
 refine au 11 ?_
 exact ⟨_,rfl,hm⟩
theorem Ww(fs:Nat)(lb:Ti)(xs:Tj)(Wd:World→Prop)(w0:World)(hg:JH Tryz.prog fs=true)(hs:uO Tryz.prog fs lb xs Wd)(hl:xs.length≤1000000)(hW:∀ w,Ext No w0 w→Wd w):C Tryz.prog 277 [.slice none 0 0,.func (.func fs) #[] ⟨lb⟩] w0 fun v w'=>∃ (p:Tg) (n cap g:Nat) (b:ag) (ys:Tj),v=.slice p n cap∧ys.Perm xs∧Acc 3 1 p n cap (ys.flatMap Cx.encI) g b∧Mem w0 w' No [(g,b)]:=by
 refine Zt Tryz.func277 rfl rfl rfl fun κ _ Je Jc=>?_
 have hm:=Mem.start w0
 refine au 2 ?_
 refine bT hm fun m3 w hm=>?_
 replace hm:=hm.JP
 have ay:=Acc.nil 3 1 none 0
 refine au 10 ?_
 refine VJ rfl rfl hg hm fun a_ fn r0 l w LB jF dV Km Kn hm=>C.mono (hs l (fun F ys w=>∃ p n cap g b9,Mem w0 w No ((l,LB .ready none)::(r0,eh (some []))::(g,b9)::(m3,.row 134 [.slice p n cap])::F)∧Acc 3 1 p n cap (ys.flatMap Cx.encI) g b9) _
  (by rintro F ys w ⟨p,n,cap,g,b9,hm,-⟩; exact ⟨hW _ hm.to,Jr.right (A:=[_,_,_,_]) hm.Jz⟩)
  (by rintro Z Z' F ys w w' ⟨p,n,cap,g,b9,hm,ha⟩ hc; exact ⟨p,n,cap,g,b9,Mem.mq (A:=[_,_,_,_]) hm hc,ha⟩)
  (fun F ys x w hI aX=>?_) ⟨_,_,_,_,_,hm,ay⟩) (fun v w hR=>?_)
 ·
  subst jF
  obtain ⟨bU,nm,aB,cQ,cL,hm,ay⟩:=hI
  obtain rfl:=ay.QB Jq Tb
  refine Yw.of dV (hm.get (k:=0) rfl) rfl rfl<|au 3 ?_
  refine Xf hm 0 rfl fun w hm=>au 4 ?_
  refine Jb (l:=[_]) rfl rfl sl134.h z3.h rfl rfl rfl rfl rfl rfl rfl hm trivial fun m1 w c5 hm hh=>Jy rfl rfl rfl rfl rfl rfl sl134.h sl134.h z3.h rfl rfl (Rd.JL (hm.get (k:=0) rfl)) rfl ay hm 3 rfl Ta Ta fun bU aB cQ cL w ay hm=>st hm 4 fun w hm=>?_
  refine au 2 ?_
  refine gz hm 1 rfl fun w hm=>⟨rfl,bU,_,aB,cQ,cL,(hm.Jp [1,2,3,4] 5 rfl),ay.to ?_⟩
  rw [Lh]; rfl
 ·
  subst jF
  obtain ⟨rfl,F,ys,hyp,bU,nm,aB,cQ,cL,hm,ay⟩:=hR
  refine ⟨.ready,none,nofun,hm.get (k:=0) rfl,fun w4 oh=>?_⟩
  replace hm:=Xw hm oh
  refine au 9 ?_
  refine dD (ly Je rfl hm 0 rfl .one fun w hm=>⟨(.tmp rfl .nil),?_⟩)
  exact ⟨_,_,_,_,_,ys,rfl,hyp,ay,(hm.pick [1] rfl)⟩
theorem AN(fs:Nat)(lb:Ti)(xs:Tj)(Wd:World→Prop)(w0:World)(hg:JH Tryz.prog fs=true)(hs:uO Tryz.prog fs lb xs Wd)(hl:xs.length≤1000000)(hW:∀ w,Ext No w0 w→Wd w):C Tryz.prog 246 [.func (.func fs) #[] ⟨lb⟩] w0 fun v w'=>∃ (p:Tg) (n cap g:Nat) (b:ag) (ys:Tj),v=.slice p n cap∧ys.Perm xs∧Acc 3 1 p n cap (ys.flatMap Cx.encI) g b∧Mem w0 w' No [(g,b)]:=by
 refine aH Tryz.func246 fun κ _ Je Jc hm=>?_
 refine au 8 ?_
 refine cT rfl rfl rfl (Ww fs lb xs Wd _ hg hs hl fun w hx=>hW _ (hm.to.trans hx)) fun v w hR=>?_
 obtain ⟨bU,nm,aB,cQ,cL,ys,rfl,hyp,ay,ae⟩:=hR
 replace hm:=hm.Jt ae
 refine au 5 ?_
 exact ⟨_,_,_,_,_,ys,rfl,hyp,ay,(hm.pick [0] rfl)⟩
theorem ny(fs:Nat)(lb:Ti)(xs:Tj)(Wd:World→Prop)(w0:World)(hg:JH Tryz.prog fs=true)(hs:uO Tryz.prog fs lb xs Wd)(hl:xs.length≤1000000)(hW:∀ w,Ext No w0 w→Wd w):C Tryz.prog 205 [.func (.func fs) #[] ⟨lb⟩] w0 fun v w'=>∃ p n cap g b,v=.slice p n cap∧Acc 3 1 p n cap ((Pl.dP xs).flatMap Cx.encI) g b∧Mem w0 w' No [(g,b)]:=by
 refine aH Tryz.func205 fun κ _ Je Jc hm=>?_
 refine au 8 ?_
 refine cT rfl rfl rfl (AN fs lb xs Wd _ hg hs hl fun w hx=>hW _ (hm.to.trans hx)) fun v w hR=>?_
 obtain ⟨bU,nm,aB,cQ,cL,ys,rfl,hyp,ay,ae⟩:=hR
 replace hm:=hm.Jt ae
 obtain rfl:=ay.QB Jq Tb
 have fz:=hyp.length_eq
 refine au 6 ?_
 refine cT rfl rfl rfl (OD bU cQ aB cL ys _ ay (fun h9=>hm.nV (k:=0) rfl h9) Ta) fun v w hR=>?_
 obtain ⟨rfl,b2,AL,oq⟩:=hR
 replace hm:=hm.Ed 0 rfl oq
 have AL:Acc 3 1 bU ys.length aB ((Pl.dP ys).flatMap Cx.encI) cQ b2:=AL
 rw [Pl.Oo hyp] at AL
 refine au 10 ?_
 exact ⟨_,_,_,_,_,rfl,AL,hm⟩
theorem mg237:MK Tryz.prog 237 iD (.slice none 0 0):=.i Te
theorem KO(n:Nat)(w0:World)(hn:n≤1048576):C Tryz.prog 123 [.int .i64 (n:Int)] w0 fun v w'=>∃ m Z,v=.pointer (some ⟨m,0,none⟩)∧QP 239 3 n [] m Z∧Mem w0 w' No Z:=by
 refine aH Tryz.func123 fun κ _ Je Jc hm=>?_
 refine au 9 ?_
 refine Ja rfl rfl (JA (c:=false) (VO rfl rfl) (LN Ta))<|au 2 ?_
 refine Ja rfl rfl (JA (c:=false) (XE rfl rfl) (LN Ta))<|au 9 ?_
 refine ic yE rfl rfl hm trivial fun me w jcn hm hh=>ic iD rfl rfl hm trivial fun mo w jco hm hh=>ic iD rfl rfl hm trivial fun mi w jcp hm hh=>Ja rfl rfl (Qe (cs:=[_,_,_,_]) z239.h ft239.h rfl rfl rfl rfl rfl)<|bT hm fun m w hm=>?_
 refine au 5 ?_
 exact ⟨m,_,rfl,⟨me,mo,mi,[],0,[],[],0,0,HP.nil _ hn,rfl⟩,(hm.pick [0,3,2,1] rfl)⟩
theorem yK(n m:Nat)(l:Ti)(w0:World)(h0:w0.heap[m]?=some (ag.row 239 (.int .i64 (n:Int)::l)).Jd):C Tryz.prog 160 [.pointer (some ⟨m,0,none⟩)] w0 fun v w'=>v=.int .i64 n∧Ext No w0 w':=by
 refine aH Tryz.func160 fun κ _ Je Jc hm=>?_
 refine au 26 ?_
 exact ⟨rfl,hm.to⟩
theorem uQ(n m:Nat)(l:Ti)(a:Int)(w0:World)(h0:w0.heap[m]?=some (ag.row 239 (.int .i64 (n:Int)::l)).Jd):C Tryz.prog 157 [.pointer (some ⟨m,0,none⟩),.int .i64 a] w0 fun v w'=>v=.bool (decide (0≤a)&&decide (a<n))∧Ext No w0 w':=by
 refine aH Tryz.func157 fun κ _ Je Jc hm=>?_
 refine au 12 ?_
 refine J1 rfl rfl rfl (fun hc=>(J8 (gx hc rfl) QL)) go160 (fun hc=>(yK n m l _ (Qp hm.to h0))) trivial fun w hE hh=>?_
 replace hm:=hm.ext hE
 refine au 7 ?_
 exact ⟨rfl,hm.to⟩
theorem IS(n m:Nat)(E:Tl)(Z:Tf)(w0:World)(hZ:Jr w0 Z)(hz:QP 239 3 n E m Z)(hE:E.length≤1000000)(a:Int):C Tryz.prog 162 [.pointer (some ⟨m,0,none⟩),.int .i64 a] w0 fun v w'=>∃ p k cap g b,v=.slice p k cap∧Acc 3 1 p k cap ((Pl.dP (Pl.outs E a)).flatMap Cx.encI) g b∧Mem w0 w' No [(g,b)]:=by
 have hle:n≤1048576:=by obtain ⟨_,_,_,_,_,_,_,_,_,hg,_⟩:=hz; exact hg.le
 obtain ⟨me,mo,mi,ee,ce,lo,li,co,ci,hg,rfl⟩:=hz
 obtain ⟨q,cq,NM,NN⟩:=hg.ho.rd a (w:=w0) (A:=[_,_,_,_]) (Y:=[]) (Z:=jK li++[]) hZ
 have Et:=Pl.Yj E a
 refine aH Tryz.func162 fun κ _ Je Jc hm=>?_
 refine au 20 ?_
 refine Ja rfl rfl (Jh rfl sc237.h (Qo ((hm.to.same _ (Lb.1 (hZ.get (k:=0) rfl)).1 id).trans (hZ.get (k:=0) rfl))) rfl)<|au 1 ?_
 refine Ja rfl rfl (cy (Vz rfl rfl rfl mg237 (Qo (Qp hm.to (hZ.get (k:=2) rfl)))) NM)<|cT rfl rfl rfl (uP q _ cq _) fun v w hR=>?_
 obtain ⟨m1,rfl,ae⟩:=hR
 replace hm:=hm.Jt ae
 refine cT rfl rfl rfl (ny _ _ (Pl.outs E a) _ _ go248 (ij m1 q cq _ Ta) Ta (fun w9 Eu=>⟨Qp Eu (hm.get (k:=0) rfl),NN.Jj (hm.to.trans Eu)⟩)) fun v w hR=>?_
 obtain ⟨bU,nm,aB,cQ,cL,rfl,ay,ae⟩:=hR
 replace hm:=hm.Jt ae
 refine au 5 ?_
 exact ⟨_,_,_,_,_,rfl,ay,(hm.pick [0] rfl)⟩
theorem jbC(n m:Nat)(E:Tl)(Z:Tf)(w0:World)(hZ:Jr w0 Z)(hz:QP 239 3 n E m Z)(hE:E.length≤1000000)(a:Int):C Tryz.prog 161 [.pointer (some ⟨m,0,none⟩),.int .i64 a] w0 fun v w'=>∃ p k cap g b,v=.slice p k cap∧Acc 3 1 p k cap ((Pl.dP (Pl.ins E a)).flatMap Cx.encI) g b∧Mem w0 w' No [(g,b)]:=by
 have hle:n≤1048576:=by obtain ⟨_,_,_,_,_,_,_,_,_,hg,_⟩:=hz; exact hg.le
 obtain ⟨me,mo,mi,ee,ce,lo,li,co,ci,hg,rfl⟩:=hz
 obtain ⟨q,cq,NM,NN⟩:=hg.hi.rd a (w:=w0) (A:=[_,_,_,_]) (Y:=jK lo) (Z:=[]) hZ
 have Et:=Pl.rD E a
 refine aH Tryz.func161 fun κ _ Je Jc hm=>?_
 refine au 20 ?_
 refine Ja rfl rfl (Jh rfl sc237.h (Qo ((hm.to.same _ (Lb.1 (hZ.get (k:=0) rfl)).1 id).trans (hZ.get (k:=0) rfl))) rfl)<|au 1 ?_
 refine Ja rfl rfl (cy (Vz rfl rfl rfl mg237 (Qo (Qp hm.to (hZ.get (k:=3) rfl)))) NM)<|cT rfl rfl rfl (uP q _ cq _) fun v w hR=>?_
 obtain ⟨m1,rfl,ae⟩:=hR
 replace hm:=hm.Jt ae
 refine cT rfl rfl rfl (ny _ _ (Pl.ins E a) _ _ go248 (ij m1 q cq _ Ta) Ta (fun w9 Eu=>⟨Qp Eu (hm.get (k:=0) rfl),NN.Jj (hm.to.trans Eu)⟩)) fun v w hR=>?_
 obtain ⟨bU,nm,aB,cQ,cL,rfl,ay,ae⟩:=hR
 replace hm:=hm.Jt ae
 refine au 5 ?_
 exact ⟨_,_,_,_,_,rfl,ay,(hm.pick [0] rfl)⟩
theorem mg236:MK Tryz.prog 236 yE (.bool false):=.e Te
end Go.Proofs.YtaehgpeenaomcaaGreat
namespace Go.Pl
open Go Go.Cx Go.Proofs.YtaehgpeenaomcaaGreat
def eb(n:Nat)(E es:Tl):List (Int×Int):=es.foldl (Pl.ie n) E
end Go.Pl
namespace Go.Proofs.YtaehgpeenaomcaaGreat
open Go Go.Cx
theorem nz{n:Nat}{E es:Tl}{k:Nat}{e:Int×Int}(h:es[k]?=some e):Pl.eb n E (es.take (k+1))=Pl.ie n (Pl.eb n E (es.take k)) e:=by
 rw [LC,h]
 simp [Pl.eb]
theorem ik(n:Nat):∀ (es E:Tl),(Pl.eb n E es).length≤E.length+es.length
 | [],E=>by simp [Pl.eb]
 | e::r,E=>by
  have h:=ik n r (Pl.ie n E e)
  have h1:=Pl.HN n E e
  have h2:Pl.eb n E (e::r)=Pl.eb n (Pl.ie n E e) r:=rfl
  rw [h2,Li]
  omega
theorem HX(n:Nat)(E:Tl)(e:Int×Int):(((!(decide (0≤e.1)&&decide (e.1<(n:Int)))||!(decide (0≤e.2)&&decide (e.2<(n:Int))))||decide (e.1=e.2))||decide (e∈E))=!Pl.KI n E e:=by
 rw [Bool.eq_iff_iff]
 simp only [Pl.KI,bB,bE,Bool.and_eq_false_imp,bA,dT,dF,← Bool.not_eq_true]
 by_cases h1:0≤e.1 <;> by_cases h2:e.1<(n:Int) <;> by_cases h3:0≤e.2 <;> by_cases h4:e.2<(n:Int) <;> by_cases h5:e.1=e.2 <;> by_cases h6:e∈E <;> simp [h1,h2,h3,h4,h5,h6]
theorem KP(n m:Nat)(E:Tl)(Z:Tf)(w0:World)(hZ:Jr w0 Z)(hz:QP 239 3 n E m Z)(hE:E.length≤1000000)(q:Tg)(cq:Nat)(es:Tl)(hq:Rd w0 q (es.flatMap Q9))(PM:es.flatMap Q9≠[]→∀ ad,q=some ad→¬ Mn (ak Z) ad.block)(hl:es.length≤1000000):C Tryz.prog 126 [.pointer (some ⟨m,0,none⟩),.slice q es.length cq] w0 fun v w'=>∃ c Z',v=.int .i64 c∧QP 239 3 n (Pl.eb n E es) m Z'∧Mem w0 w' (Mn (ak Z)) Z':=by
 refine Vk Tryz.func126 rfl rfl rfl fun κ _ Je Jc=>?_
 have hm:=hZ.start
 refine au 19 ?_
 refine Jg (ι:=Nat×Int×List (Nat×ag)) rfl (ks:=[0,4,8,9]) Tn (fun x=>[(10,.int .i64 (x.1:Int)),(5,.int .i64 x.2.1)]) (fun x w=>Mem w0 w (Mn (ak Z)) x.2.2∧QP 239 3 n (Pl.eb n E (es.take x.1)) m x.2.2∧x.1≤es.length∧0≤x.2.1∧x.2.1≤x.1) (fun x=>es.length-x.1) (0,0,Z) (⟨hm,hz,LL _,Int.le_refl _,Int.le_refl _⟩) Tm (fun x w hM=>?_)
 obtain ⟨k,c,Z1⟩:=x
 obtain ⟨hm,bZ,hk,ao,aD⟩:=hM
 simp only at hm bZ hk ao aD ⊢
 have OK:=ik n (es.take k) E
 rw [Lg] at OK
 generalize AO:Pl.eb n E (es.take k)=E1 at bZ OK
 obtain ⟨me,mo,mi,ee,ce,lo,li,co,ci,hg,rfl⟩:=bZ
 refine au 6 ?_
 refine cd (fun ai=>?_) fun ai=>?_
 ·
  simp only [dT] at ai
  obtain ⟨e,hi⟩:∃ y_,es[k]?=some y_:=⟨_,La Ta⟩
  obtain ⟨qb,qo,rfl⟩:=(hq.Yu hm.to PM).bS QM Tb hi
  refine au 7 ?_
  refine Ja rfl rfl (JU rfl ag201.h (hq.Yu hm.to PM).nt QM hi)<|aT hm fun ed w hm=>?_
  refine st hm 0 fun w hm=>?_
  refine au 4 ?_
  refine dw [0,3,6,10,12,15,18,21,24,28,30,33,36,39,42,45,48,51,54,57,60,63,66,69,72,75,78] hm fun w hw ar hh hm=>?_
  refine au 3 ?_
  refine cB rfl rfl rfl (uQ n m _ e.1 _ (hm.get (k:=1) rfl)) hm hh fun w hm hh=>Ja rfl rfl (kY rfl)<|Ja rfl rfl (Jx rfl)<|JK rfl rfl rfl (fun hc=>(Jx rfl))<|JK rfl rfl rfl (fun hc=>(Jv rfl fo201_1.h))<|JK rfl rfl rfl (fun hc=>(Jh (gx hc rfl) sc3.h (ar.nd 0 rfl id) rfl))<|J1 rfl rfl rfl (fun hc=>(J8 (gx hc rfl) (J8 (gx hc rfl) QL))) go157 (fun hc=>(uQ n m _ e.2 _ (hm.get (k:=1) rfl))) hh fun w hE hh=>?_
  replace hm:=hm.ext hE
  refine JK rfl rfl rfl (fun hc=>(kY (gx hc rfl)))<|Ja rfl rfl (sh rfl rfl rfl)<|Ja rfl rfl (Jx rfl)<|JK rfl rfl rfl (fun hc=>(Jv rfl fo201_0.h))<|JK rfl rfl rfl (fun hc=>(Jh (gx hc rfl) sc3.h (ar.nd 0 rfl id) rfl))<|JK rfl rfl rfl (fun hc=>(Jv rfl fo201_1.h))<|JK rfl rfl rfl (fun hc=>(Jh (gx hc rfl) sc3.h (ar.nd 0 rfl id) rfl))<|JK rfl rfl rfl (fun hc=>(V3 (gx hc rfl) (gx hc rfl)))<|Ja rfl rfl (sh rfl rfl rfl)<|Ja rfl rfl (Jx rfl)<|JK rfl rfl rfl (fun hc=>(Jx rfl))<|JK rfl rfl rfl (fun hc=>(oI (gx hc rfl)))<|JK rfl rfl rfl (fun hc=>(Jv (gx hc rfl) fo239_1.h))<|JK rfl rfl rfl (fun hc=>(Jh (gx hc rfl) sc236.h (ar.nd 1 rfl id) rfl))<|JK rfl rfl rfl (fun hc=>(Jm (s:=2) (vs:=[_,_]) rfl ag201.h (ar.nd 0 rfl id) rfl))<|JK rfl rfl rfl (fun hc=>(cy (Vz (kk:=e) (gx hc rfl) (gx hc rfl) rfl mg236 (ar.nd 2 rfl id)) (hg.jbq e)))<|Ja rfl rfl (cy (sh rfl rfl rfl) (LM Value.bool (HX n E1 e)))<|au 2 ?_
  refine cd (fun ao=>?_) fun ao=>?_
  ·
   simp only [bE] at ao
   have hgk:=ao
   refine au 8 ?_
   exact next (k+1,c,grL _ n m me mo mi ee ce lo li co ci) Td ⟨(hm.Jp [1,2,3,4] 5 rfl),⟨me,mo,mi,ee,ce,lo,li,co,ci,by rw [nz hi,AO,Pl.ie,LH (by rw [hgk]; simp)]; exact hg,rfl⟩,Td,Td,Td⟩ ⟨nx k,Tm⟩
  ·
   simp only [bF] at ao
   have hgk:=ao
   refine au 3 ?_
   refine dw [0,3,6,9,12,2,16] hm fun w hw ar hh hm=>?_
   refine au 6 ?_
   refine ZI (kk:=e) rfl rfl rfl rfl rfl mg236 hm 2 rfl fun w hm=>?_
   obtain ⟨jbD,OL,Wx,Wy,R1,FG,Ev,jbE,Wz⟩:=hg.ho.take e.1
   replace hm:=jbE _ _ _ [_,_,_,_,_] [] (jK li++[]) hm
   have Et:=Pl.Yj E1 e.1
   have KA:=Pl.rD E1 e.2
   refine au 3 ?_
   refine JS (.pure 0 (.pure 1 (.pure 2 (.pure 3 (.pure 4 (.pure 5 (.pure 6 (.pure 7 (.pure 8 (.pure 9 (.pure 10 (.pure 11 (.pure 12 (.pure 13 (.pure 14 (.act 15 (.act 16 (.cut (.act 17 .done))))))))))))))))))) (fun j=>(j=Wx∧Wy.real=true)) fP Te hm fun w hw ar hh=>?_
   have hm:=ar
   refine au 3 ?_
   refine Ja rfl rfl (Jh rfl sc237.h (ar.nd 2 rfl (ar.ta 2 0 rfl rfl rfl)) rfl)<|au 1 ?_
   refine Ja rfl rfl (Jh rfl sc3.h (ar.nd 1 rfl (ar.ta 1 0 rfl rfl rfl)) rfl)<|au 3 ?_
   refine Ja rfl rfl (Jh rfl sc237.h (ar.nd 2 rfl (ar.ta 2 0 rfl rfl rfl)) rfl)<|au 1 ?_
   refine Ja rfl rfl (Jh rfl sc3.h (ar.nd 1 rfl (ar.ta 1 0 rfl rfl rfl)) rfl)<|Ja rfl rfl (cy (Vz rfl rfl rfl mg237 (ar.nd 4 rfl (ar.ta 4 0 rfl rfl rfl))) FG)<|au 1 ?_
   refine Ja rfl rfl (Jh rfl sc3.h (ar.nd 1 rfl (ar.ta 1 0 rfl rfl rfl)) rfl)<|Jb (l:=[_]) rfl rfl sl134.h z3.h rfl rfl rfl rfl rfl rfl rfl hm hh fun m1 w c5 hm hh=>Xm rfl rfl rfl rfl rfl rfl sl134.h sl134.h z3.h rfl rfl (Rd.JL (hm.get (k:=0) rfl)) rfl Ev hm 1 rfl Ta Ta hh (fun hr=>.inr ⟨rfl,hr⟩) fun jbD OL Wx Wy w _ Ev hm hh jcq=>au 1 ?_
   refine ZI rfl rfl rfl rfl rfl mg237 hm 5 rfl fun w hm=>?_
   obtain ⟨lo2,tX,OM,jbF⟩:=Wz _ _ _ _ _ e.2 (Pl.outs (E1++[e])) (fun u=>Pl.Ef E1 e.1 e.2 u) (Ev.to (by rw [Lh]; rfl))
   rw [tX] at hm
   replace hm:=OM _ _ _ [_,_,_,_,_] [] (jK li++[]) (hm.Jp [1,2,3,4,5,6] 7 rfl)
   obtain ⟨jbG,ON,WA,WB,R2,mR,Ew,jbH,WC⟩:=hg.hi.take e.2
   replace hm:=jbH _ _ _ [_,_,_,_,_] (jK lo2) [] hm
   refine au 3 ?_
   refine JS (.pure 0 (.pure 1 (.pure 2 (.pure 3 (.pure 4 (.pure 5 (.pure 6 (.pure 7 (.pure 8 (.pure 9 (.pure 10 (.pure 11 (.pure 12 (.pure 13 (.pure 14 (.act 15 (.act 16 (.cut (.act 17 .done))))))))))))))))))) (fun j=>(j=WA∧WB.real=true)) fP Te hm fun w hw ar hh=>?_
   have hm:=ar
   refine au 3 ?_
   refine Ja rfl rfl (Jh rfl sc237.h (ar.nd 2 rfl (ar.ta 2 0 rfl rfl rfl)) rfl)<|au 1 ?_
   refine Ja rfl rfl (Jh rfl sc3.h (ar.nd 1 rfl (ar.ta 1 0 rfl rfl rfl)) rfl)<|au 3 ?_
   refine Ja rfl rfl (Jh rfl sc237.h (ar.nd 2 rfl (ar.ta 2 0 rfl rfl rfl)) rfl)<|au 1 ?_
   refine Ja rfl rfl (Jh rfl sc3.h (ar.nd 1 rfl (ar.ta 1 0 rfl rfl rfl)) rfl)<|Ja rfl rfl (cy (Vz rfl rfl rfl mg237 (ar.nd 5 rfl (ar.ta 5 0 rfl rfl rfl))) mR)<|au 1 ?_
   refine Ja rfl rfl (Jh rfl sc3.h (ar.nd 1 rfl (ar.ta 1 0 rfl rfl rfl)) rfl)<|Jb (l:=[_]) rfl rfl sl134.h z3.h rfl rfl rfl rfl rfl rfl rfl hm hh fun m2 w bo hm hh=>Xm rfl rfl rfl rfl rfl rfl sl134.h sl134.h z3.h rfl rfl (Rd.JL (hm.get (k:=0) rfl)) rfl Ew hm 1 rfl Ta Ta hh (fun hr=>.inr ⟨rfl,hr⟩) fun jbG ON WA WB w _ Ew hm hh jcr=>au 1 ?_
   refine ZI rfl rfl rfl rfl rfl mg237 hm 6 rfl fun w hm=>?_
   obtain ⟨li2,yr,OO,Ex⟩:=WC _ _ _ _ _ e.1 (Pl.ins (E1++[e])) (fun u=>Pl.HM E1 e.1 e.2 u) (Ew.to (by rw [Lh]; rfl))
   rw [yr] at hm
   replace hm:=OO _ _ _ [_,_,_,_,_] (jK lo2) [] (hm.Jp [1,2,3,4,5,6] 7 rfl)
   have RL:=hg.add hgk jbF Ex
   refine au 13 ?_
   exact next (k+1,c+1,grL _ n m me mo mi _ _ lo2 li2 _ _) Td ⟨(hm.Jp [1,2,3,4] 5 rfl),⟨me,mo,mi,_,_,lo2,li2,_,_,by rw [nz hi,AO,Pl.ie,LI hgk]; exact RL,rfl⟩,Td,Td,Td⟩ ⟨nx k,Tm⟩
 ·
  simp only [dF] at ai
  have b8:k=es.length:=by omega
  rw [b8,Lv] at AO
  refine au 13 ?_
  exact ⟨c,grL _ n m me mo mi ee ce lo li co ci,rfl,⟨me,mo,mi,ee,ce,lo,li,co,ci,by rw [AO]; exact hg,rfl⟩,hm⟩
theorem Ey(p:Tg)(cap:Nat)(xs:Tj)(w0:World)(hx:Rd w0 p (xs.flatMap Cx.encI))(hlen:xs.length*8≤140737488355328):C Tryz.prog 275 [.slice p xs.length cap] w0 fun v w'=>∃ q c g b,v=.slice q xs.length c∧Acc 3 1 q xs.length c (xs.flatMap Cx.encI) g b∧Mem w0 w' No [(g,b)]:=by
 refine aH Tryz.func275 fun κ _ Je Jc hm=>?_
 refine au 9 ?_
 refine Ja rfl rfl (vJ rfl rfl sb134)<|au 2 ?_
 refine cd (fun ai=>?_) fun ai=>?_
 ·
  obtain rfl:p=none:=by simpa using ai
  obtain rfl:=HQ hx
  refine au 8 ?_
  exact ⟨none,0,0,.gap,rfl,.nil _ _ _ _,hm.JP⟩
 ·
  refine au 4 ?_
  refine Jb (l:=[]) rfl rfl sl134.h z3.h rfl rfl rfl rfl rfl rfl rfl hm trivial fun m1 w c5 hm hh=>au 1 ?_
  refine Jy rfl rfl rfl rfl rfl rfl sl134.h sl134.h z3.h rfl (Eg xs) (hx.Jj hm.to) (uH xs) (Acc.row rfl) hm 0 rfl Ta Ta fun C9 mW C' Da w tT hm=>au 5 ?_
  exact ⟨C9,mW,C',Da,by rw [LV],by simpa only [LV,L4] using tT,hm⟩
theorem HY(m1 mm:Nat)(es:cG Int)(ck:Nat)(yl:Nat)(I:Tf→Tj→World→Prop)(w0:World)(Ay:WfG es ck)
 (eu:∀ F ys w,I F ys w→(w.heap[m1]?=some (ag.row 362 [.map (some mm)]).Jd∧w.heap[mm]?=some (fm iD es ck).Jd)∧Jr w F) (c6:∀ Z Z' F ys w w',I (Z++F) ys w→Mem w w' (Mn (ak Z)) Z'→I (Z'++F) ys w')
 (hy:∀ F ys x w,I F ys w→ys.length<(es.map (·.1)).length→Yw Tryz.prog yl [.int .i64 x] w fun v w'=>v=.bool true∧I F (ys++[x]) w') (h0:I [] [] w0):C Tryz.prog 292 [.func (.yield yl) #[] #[],.pointer (some ⟨m1,0,none⟩)] w0 fun v w'=>v=.tuple ⟨[]⟩∧∃ F ys,ys.Perm (es.map (·.1))∧I F ys w':=by
 refine aH Tryz.func292 fun κ _ Je Jc hm=>?_
 refine au 2 ?_
 refine Ja rfl rfl (Jh rfl sc362.h (Qo ((hm.to.same _ (Lb.1 (eu _ _ _ h0).1.1).1 id).trans (eu _ _ _ h0).1.1)) rfl)<|nu rfl rfl rfl un362 (Qp hm.to (eu _ _ _ h0).1.2) hm fun it w hm=>au 3 ?_
 refine Jg (ι:=cG Int) rfl (ks:=[0,5]) Tn (fun x=>[]) (fun x w=>I [(it,.obj (.mapIter (some mm) ck ⟨x.map (·.2.2)⟩ ck))] (x.map (·.1)) w∧uG es x) (fun x=>es.length-x.length) [] (⟨c6 [] [_] [] _ _ _ h0 hm.Ax,uG.nil es⟩) trivial (fun x w hM=>?_)
 obtain ⟨hI,hv⟩:=hM
 have hm:=(eu _ _ _ hI).2.start
 refine au 1 ?_
 rcases Ec (P:=Tryz.prog) (hm.get (k:=0) rfl) (eu _ _ _ hI).1.2 Ay with ⟨cI,aN⟩ | ⟨e,he,bR,w1,AO,fS,aN⟩
 ·
  refine au 1 ?_
  refine rB rfl rfl rfl aN<|au 9 ?_
  refine eK (fin Jc rfl .nil .nil ?_)
  exact ⟨rfl,_,_,(hv.done Ay.borns cI).map _,hI⟩
 ·
  obtain ⟨Hh,NF⟩:=hv.next he bR
  refine au 1 ?_
  refine rC rfl rfl rfl fS AO aN hm 0 rfl fun w hm=>?_
  have yf:=c6 [(_,_)] [(_,_)] [] _ _ _ hI hm
  refine au 10 ?_
  refine Ja rfl rfl (nv rfl (hm.nt 0 rfl) (Qo (eu _ _ _ yf).1.2) he Ay)<|au 8 ?_
  refine XM rfl rfl rfl rfl (hy _ _ e.1 _ yf (by rw [Lj,Lj]; omega)) fun v w hR=>⟨trivial,?_⟩
  obtain ⟨rfl,N9⟩:=hR
  rw [show x.map (·.2.2)++[e.2.2]=(x++[e]).map (·.2.2) by rw [Lx]; rfl] at N9
  refine au 6 ?_
  refine next (x++[e]) (by rw [Lc,LG]; omega) ⟨by rw [show (x++[e]).map (·.1)=x.map (·.1)++[e.1] by rw [Lx]; rfl]; exact N9,Hh⟩ Tm
theorem wU(m1 mm:Nat)(es:cG Int)(ck:Nat)(Ay:WfG es ck):uO Tryz.prog 292 [.pointer (some ⟨m1,0,none⟩)] (es.map (·.1)) fun w=>w.heap[m1]?=some (ag.row 362 [.map (some mm)]).Jd∧w.heap[mm]?=some (fm iD es ck).Jd:=fun yl I w0 h1 h2 h3 h4=>HY m1 mm es ck yl I w0 Ay h1 h2 h3 h4
theorem OP(mm:Nat)(w0:World):C Tryz.prog 276 [.map (some mm)] w0 fun v w'=>∃ m1,v=.func (.func 292) #[] ⟨[.pointer (some ⟨m1,0,none⟩)]⟩∧Mem w0 w' No [(m1,ag.row 362 [.map (some mm)])]:=by
 refine aH Tryz.func276 fun κ _ Je Jc hm=>?_
 refine au 2 ?_
 refine bT hm fun m1 w hm=>?_
 refine au 11 ?_
 exact ⟨_,rfl,hm⟩
theorem mg362:MK Tryz.prog 362 iD (.bool false):=.i Te
theorem HZ(n m:Nat)(E:Tl)(Z:Tf)(w0:World)(hZ:Jr w0 Z)(hz:QP 239 3 n E m Z)(hE:E.length≤1000000)(a:Int):C Tryz.prog 244 [.pointer (some ⟨m,0,none⟩),.int .i64 a] w0 fun v w'=>∃ p k cap g b xs,v=.slice p k cap∧Acc 3 1 p k cap ((Pl.dP xs).flatMap Cx.encI) g b∧xs.length≤1000000∧(∀ u,u∈xs↔Pl.Path E a u)∧Mem w0 w' No [(g,b)]:=by
 have hle:n≤1048576:=by obtain ⟨_,_,_,_,_,_,_,_,_,hg,_⟩:=hz; exact hg.le
 obtain ⟨me,mo,mi,ee,ce,lo,li,co,ci,hg,rfl⟩:=hz
 obtain ⟨q,cq,NM,NN⟩:=hg.ho.rd a (w:=w0) (A:=[_,_,_,_]) (Y:=[]) (Z:=jK li++[]) hZ
 have Et:=Pl.Yj E a
 have jbI:=Pl.AB (a:=a) hE
 refine aH Tryz.func244 fun κ _ Je Jc hm=>?_
 refine au 5 ?_
 refine El rfl<|au 12 ?_
 refine ic iD rfl rfl hm trivial fun sn w jcs hm hh=>au 8 ?_
 refine Ja rfl rfl (Jh rfl sc237.h (Qo ((hm.to.same _ (Lb.1 (hZ.get (k:=0) rfl)).1 id).trans (hZ.get (k:=0) rfl))) rfl)<|au 1 ?_
 refine Ja rfl rfl (cy (Vz rfl rfl rfl mg237 (Qo (Qp hm.to (hZ.get (k:=2) rfl)))) NM)<|cT rfl rfl rfl (Ey q cq _ _ (NN.Jj hm.to) Ta) fun v w hR=>?_
 obtain ⟨H0,fp,Ez,AP,rfl,eA,ae⟩:=hR
 have KQ:AP.real=true→_:=fun hr=>(ae.fresh _ Lo hr).resolve_left id
 replace hm:=hm.Jt ae
 refine au 4 ?_
 refine Em rfl<|au 3 ?_
 refine Jg (ι:=cG Int×Nat×Ow×List Int) rfl (ks:=[0,4,5]) Tn (fun x=>[(6,.slice x.2.2.1.p x.2.2.1.n x.2.2.1.cap)]) (fun x w=>Mem w0 w No [(x.2.2.1.g,x.2.2.1.b),(sn,fm iD x.1 x.2.1)]∧Acc 3 1 x.2.2.1.p x.2.2.1.n x.2.2.1.cap (x.2.2.2.flatMap Cx.encI) x.2.2.1.g x.2.2.1.b∧SetM x.1 x.2.1∧Pl.RI E a (x.1.map (·.1)) x.2.2.2∧Pl.Ei E (x.1.map (·.1)) x.2.2.2≤1000002000000) (fun x=>Pl.Ei E (x.1.map (·.1)) x.2.2.2) ([],0,⟨H0,_,fp,Ez,AP⟩,Pl.outs E a) (⟨(hm.pick [0,1] rfl),eA,SetM.nil,Pl.RI.start E a,jbI⟩) Tm (fun x w hM=>?_)
 obtain ⟨es,ck,⟨H0,n_st,fp,Ez,AP⟩,stk⟩:=x
 obtain ⟨hm,eA,kz,WD,hmu⟩:=hM
 simp only at hm eA kz WD hmu ⊢
 obtain rfl:=eA.QB Jq Tb
 have jn:=Pl.HS E (es.map (·.1)) stk
 refine au 8 ?_
 refine cd (fun ao=>?_) fun ao=>?_
 ·
  simp only [dT] at ao
  obtain ⟨wv,hi⟩:∃ y_,stk[stk.length-1]?=some y_:=⟨_,La Ta⟩
  obtain ⟨qb,qo,rfl⟩:=(eA.rd hm 0 rfl).bS Jq Tb hi
  have cF:stk=stk.take (stk.length-1)++[wv]:=by have h9:=QG hi; rw [Nat.sub_add_cancel Ta,Lv] at h9; exact h9
  have H2:=WD
  rw [cF] at H2
  have WE:=Pl.Ek (E:=E) (w:=wv) (seen:=es.map (·.1)) (stk:=stk.take (stk.length-1))
  rw [← cF] at WE
  refine au 8 ?_
  refine Ja rfl rfl (cy (QR rfl rfl (Ql Ta Ta)) (LM (Value.int .i64) (by omega:(stk.length:Int)-1=((stk.length-1:Nat):Int))))<|au 1 ?_
  refine Ja rfl rfl (J3 rfl sc3.h (eA.rd hm 0 rfl).nt Jq hi rfl)<|au 8 ?_
  refine Ja rfl rfl (cy (QR rfl rfl (Ql Ta Ta)) (LM (Value.int .i64) (by omega:(stk.length:Int)-1=((stk.length-1:Nat):Int))))<|Ja rfl rfl (cy (JE (ln:=0) (hn:=(stk.length-1)) rfl sl134.h rfl ⟨_,rfl⟩ Ta (by have:=eA.le; omega) (fun _ ad e=>by cases e; rfl)) (by rw [XW (fun a e=>by cases e; rfl)]; rfl:Value.slice (bP (some ⟨qb,qo,none⟩) fp 0 1) (stk.length-1-0) (fp-0)=.slice (some ⟨qb,qo,none⟩) (stk.length-1) fp)) ?_
  replace eA:=(eA.head (i:=stk.length-1) Ta).to (kl Jq _ _)
  refine au 8 ?_
  refine Ja rfl rfl (cy (Vz (kk:=wv) rfl rfl rfl mg362 (hm.nt 1 rfl)) (kz.get wv))<|au 2 ?_
  refine cd (fun aD=>?_) fun aD=>?_
  ·
   simp only [dT] at aD
   have OQ:=aD
   refine au 3 ?_
   exact next (es,ck,⟨some ⟨qb,qo,none⟩,_,fp,Ez,AP⟩,stk.take (stk.length-1)) WE ⟨(hm.pick [0,1] rfl),eA,kz,H2.skip OQ,Td⟩ Tm
  ·
   simp only [dF] at aD
   have OQ:=aD
   obtain ⟨q2,cq2,hq3,hq4⟩:=hg.ho.rd wv (w:=w0) (A:=[_,_,_,_]) (Y:=[]) (Z:=jK li++[]) hZ
   have hol2:=Pl.Yj E wv
   have hmp:=Pl.Ej H2 OQ
   rw [← cF] at hmp
   refine au 6 ?_
   refine ZI (kk:=wv) rfl rfl rfl rfl rfl mg362 hm 1 rfl fun w hm=>au 7 ?_
   refine Ja rfl rfl (Jh rfl sc237.h (Qo ((hm.to.same _ (Lb.1 (hZ.get (k:=0) rfl)).1 id).trans (hZ.get (k:=0) rfl))) rfl)<|au 1 ?_
   refine Ja rfl rfl (cy (Vz rfl rfl rfl mg237 (Qo (Qp hm.to (hZ.get (k:=2) rfl)))) hq3)<|Jy rfl rfl rfl rfl rfl rfl sl134.h sl134.h z3.h rfl (Eg _) (hq4.Jj hm.to) (uH _) eA hm 0 rfl Ta Ta fun H0 fp Ez AP w eA hm=>au 3 ?_
   exact next (VS es ck wv (.bool true),vw es ck wv,⟨H0,_,fp,Ez,AP⟩,stk.take (stk.length-1)++Pl.outs E wv) (by simp only; rw [kz.keys OQ]; exact hmp) ⟨(hm.pick [0,1] rfl),eA.to (by rw [Lh]),kz.add OQ,by rw [kz.keys OQ]; exact H2.push,by simp only; rw [kz.keys OQ]; omega⟩ Tm
 ·
  simp only [dF] at ao
  obtain rfl:=Ll.1 (by omega:stk.length=0)
  have eB:=WD.done
  have ya:(es.map (·.1)).length≤1000000:=by have:=Pl.VE kz.wf.keys (fun x hx=>(WD.p1 x hx).target); simp only [Lj] at this ⊢; omega
  refine au 8 ?_
  refine cT rfl rfl rfl (OP sn _) fun v w hR=>?_
  obtain ⟨m1,rfl,ae⟩:=hR
  replace hm:=hm.Jt ae
  refine cT rfl rfl rfl (ny _ _ (es.map (·.1)) _ _ go292 (wU m1 sn es ck kz.wf) ya (fun w9 Eu=>⟨Qp Eu (hm.get (k:=0) rfl),Qp Eu (hm.get (k:=2) rfl)⟩)) fun v w hR=>?_
  obtain ⟨bU,nm,aB,cQ,cL,rfl,ay,ae⟩:=hR
  replace hm:=hm.Jt ae
  refine au 5 ?_
  exact ⟨_,_,_,_,_,_,rfl,ay,ya,eB,(hm.pick [0] rfl)⟩
theorem jg(p:Tg)(cap:Nat)(xs:Tj)(x:Int)(w0:World)(hr:Rd w0 p (xs.flatMap Cx.encI))(hl:xs.length≤1000000000):C Tryz.prog 100 [.slice p xs.length cap,.int .i64 x] w0 fun v w'=>v=.bool (decide (x∈xs))∧Ext No w0 w':=Wg jby p cap xs x w0 hr hl
theorem rF{u a:Int×Int}{ss:Tj}{A:Prop}(h:a.1∉ss∧a.2∉ss):(A∧u.1∉ss∧u.2∉ss)∨u=a↔(A∨u=a)∧u.1∉ss∧u.2∉ss:=by
 constructor
 · rintro (⟨h1,h2⟩ | rfl)
   · exact ⟨.inl h1,h2⟩
   · exact ⟨.inr rfl,h⟩
 · rintro ⟨h1 | rfl,h2⟩
   · exact .inl ⟨h1,h2⟩
   · exact .inr rfl
theorem rG{u a:Int×Int}{ss:Tj}{A:Prop}(h:a.1∉ss→a.2∈ss):(A∧u.1∉ss∧u.2∉ss)↔(A∨u=a)∧u.1∉ss∧u.2∉ss:=by
 constructor
 · rintro ⟨h1,h2⟩; exact ⟨.inl h1,h2⟩
 · rintro ⟨h1 | rfl,h2⟩
   · exact ⟨h1,h2⟩
   · exact absurd (h h2.1) h2.2
theorem AQ(n m:Nat)(E:Tl)(Z:Tf)(w0:World)(hZ:Jr w0 Z)(hz:QP 239 3 n E m Z)(hE:E.length≤1000000)(sk:Tg)(AR:Nat)(ss:Tj)(hs:Rd w0 sk (ss.flatMap Cx.encI))(jn:ss.length≤1000000):C Tryz.prog 243 [.pointer (some ⟨m,0,none⟩),.slice sk ss.length AR] w0 fun v w'=>∃ E' mh Zh,v=.pointer (some ⟨mh,0,none⟩)∧QP 239 3 n E' mh Zh∧E'.length≤1000000∧(∀ e,e∈E'↔e∈E∧e.1∉ss∧e.2∉ss)∧Mem w0 w' No Zh:=by
 have hle:n≤1048576:=by obtain ⟨_,_,_,_,_,_,_,_,_,hg,_⟩:=hz; exact hg.le
 obtain ⟨me,mo,mi,ee,ce,lo,li,co,ci,hg,rfl⟩:=hz
 have Wf:∀ e,e∈ee.map (·.1)↔e∈E:=fun e=>by rw [← Ym,hg.he]; by_cases h:e∈E <;> simp [h]
 have heln:ee.length≤1000000:=by have:=Pl.VE hg.we.keys fun x hx=>(Wf x).1 hx; rw [Lj] at this; omega
 refine aH Tryz.func243 fun κ _ Je Jc hm=>?_
 refine au 20 ?_
 refine Ja rfl rfl (Jh rfl sc3.h (Qo ((hm.to.same _ (Lb.1 (hZ.get (k:=0) rfl)).1 id).trans (hZ.get (k:=0) rfl))) rfl)<|cT rfl rfl rfl (KO n _ hle) fun v w hR=>?_
 obtain ⟨mh,Zh,rfl,uR,ae⟩:=hR
 replace hm:=hm.XR ae
 refine au 9 ?_
 refine Ja rfl rfl (Jh rfl sc236.h (Qo ((hm.to.same _ (Lb.1 (hZ.get (k:=0) rfl)).1 id).trans (hZ.get (k:=0) rfl))) rfl)<|nu rfl rfl rfl un236 (Qp hm.to (hZ.get (k:=1) rfl)) hm fun it w hm=>au 3 ?_
 refine Jg (ι:=cG (Int×Int)×List (Int×Int)×List (Nat×ag)) rfl (ks:=[1,4,5,18]) Tn (fun x=>[]) (fun x w=>Mem w0 w No ((it,.obj (.mapIter (some me) ce ⟨x.1.map (·.2.2)⟩ ce))::x.2.2)∧uG ee x.1∧QP 239 3 n x.2.1 mh x.2.2∧(∀ e,e∈x.2.1↔e∈x.1.map (·.1)∧e.1∉ss∧e.2∉ss)∧x.2.1.length≤x.1.length) (fun x=>ee.length-x.1.length) ([],[],Zh) (⟨hm,uG.nil ee,uR,Tc,LP _⟩) trivial (fun x w hM=>?_)
 obtain ⟨l,E1,Z1⟩:=x
 obtain ⟨hm,hv,bZ,vn,ya⟩:=hM
 simp only at hm hv bZ vn ya ⊢
 refine au 1 ?_
 rcases Ec (P:=Tryz.prog) (hm.get (k:=0) rfl) (Qp hm.to (hZ.get (k:=1) rfl)) hg.we with ⟨cI,aN⟩ | ⟨e,he,bR,w1,AO,fS,aN⟩
 ·
  have hpm:=hv.done hg.we.borns cI
  refine au 1 ?_
  refine rB rfl rfl rfl aN<|au 18 ?_
  exact ⟨E1,mh,Z1,rfl,bZ,by have:=hpm.length_eq; omega,fun u=>by rw [vn,(hpm.map _).mem_iff,Wf],(hm.Jp [] 1 rfl)⟩
 ·
  obtain ⟨Hh,NF⟩:=hv.next he bR
  have heE:=(Wf e.1).1 (Ln.2 ⟨e,he,rfl⟩)
  have jbJ:=hg.ok _ heE
  refine au 1 ?_
  refine rC rfl rfl rfl fS AO aN hm 0 rfl fun w hm=>au 10 ?_
  refine Ja rfl rfl (nv rfl (hm.nt 0 rfl) (Qo (Qp hm.to (hZ.get (k:=1) rfl))) he hg.we)<|au 1 ?_
  refine aT hm fun ed w hm=>?_
  refine st hm 0 fun w hm=>?_
  refine au 7 ?_
  refine cA rfl rfl rfl (jg sk AR ss e.1.1 _ (hs.Jj hm.to) Ta) hm fun w hm=>Ja rfl rfl (kY rfl)<|Ja rfl rfl (Jx rfl)<|JK rfl rfl rfl (fun hc=>(Jx rfl))<|JK rfl rfl rfl (fun hc=>(Jv rfl fo201_1.h))<|JK rfl rfl rfl (fun hc=>(Jh (gx hc rfl) sc3.h (hm.nt 0 rfl) rfl))<|J1 rfl rfl rfl (fun hc=>(J8 (gx hc rfl) (J8 (gx hc rfl) QL))) go100 (fun hc=>(jg sk AR ss e.1.2 _ (hs.Jj hm.to) Ta)) trivial fun w hE hh=>?_
  replace hm:=hm.ext hE
  refine au 4 ?_
  refine cd (fun aD=>?_) fun aD=>?_
  ·
   simp only [bA,bE,dF] at aD
   refine au 3 ?_
   refine Jb (l:=[_,_]) rfl rfl sl243.h z201.h rfl rfl rfl rfl rfl rfl rfl hm trivial fun m3 w dX hm hh=>cT rfl rfl rfl (KP n mh E1 Z1 _ (Jr.right (A:=[_,_,_]) hm.Jz) bZ Ta _ _ [e.1] (Rd.JL (hm.get (k:=0) rfl)) (fun _ ad h=>by cases h; exact Mem.qG (A:=[_,_,_]) hm (k:=0) rfl) Tc) fun v w hR=>?_
   obtain ⟨c9,Z9,rfl,eC,ae⟩:=hR
   replace hm:=Mem.JQ (A:=[_,_,_]) hm ae
   refine au 2 ?_
   exact next (l++[e],Pl.eb n E1 [e.1],Z9) (by simp only [Lc,LG]; omega) ⟨by simp only; rw [Lx]; exact (hm.Jp [2] 3 rfl),Hh,eC,fun u=>by simp only; rw [show Pl.eb n E1 [e.1]=Pl.ie n E1 e.1 from rfl,Pl.uI jbJ,vn,Lx,Ls,List.map_singleton,Lf]; exact rF aD,by have:=ik n [e.1] E1; simp only [Lc,LG] at *; omega⟩ Tm
  ·
   simp only [Bool.and_eq_false_imp,bE,bF,dF,dT] at aD
   refine au 2 ?_
   exact next (l++[e],E1,Z1) (by simp only [Lc,LG]; omega) ⟨by simp only; rw [Lx]; exact (hm.Jp [1] 2 rfl),Hh,bZ,fun u=>by simp only; rw [vn,Lx,Ls,List.map_singleton,Lf]; exact rG aD,by simp only [Lc,LG] at *; omega⟩ Tm
theorem kD(a b c e:Int):(Pl.aL a b c e).isSome=true↔max a c<min (a+b) (c+e):=by
 unfold Pl.aL Pl.zn
 split
 · exact ⟨fun h=>by simp at h,fun h=>by omega⟩
 · exact ⟨fun _=>by omega,fun _=>rfl⟩
theorem OR{es:List (Int×Int×Int)}(h:Pl.AK es):es.Pairwise fun x y=>Pl.Xy x≤y.1:=by
 rw [List.pairwise_iff_getElem]
 intro i j hi hj eZ
 exact h i j _ _ eZ (La hi) (La hj)
theorem EA{a b:Int}(hb:0<b):∀ {l:List (Int×Int×Int)},l.Pairwise (fun x y=>Pl.Xy x≤y.1)→(∀ x∈l,0<x.2.1)→(∀ x∈l,a<Pl.Xy x)→∀ u,u∈l.takeWhile (Pl.nr a b)↔u∈l∧Pl.nr a b u=true
 | [],_,_,_,u=>by simp
 | x::r,hp,h0,h1,u=>by
  rw [List.pairwise_cons] at hp
  have ih:=EA hb (l:=r) hp.2 (fun y hy=>h0 y (LX _ hy)) (fun y hy=>h1 y (LX _ hy)) u
  by_cases hx:Pl.nr a b x=true
  · rw [List.takeWhile_cons,LI hx,LR,ih,LR]
    constructor
    · rintro (rfl | h)
      · exact ⟨.inl rfl,hx⟩
      · exact ⟨.inr h.1,h.2⟩
    · rintro ⟨rfl | h,h2⟩
      · exact .inl rfl
      · exact .inr ⟨h,h2⟩
  · rw [List.takeWhile_cons,LH hx]
    refine ⟨fun h=>by simp at h,fun h=>absurd h.2 ?_⟩
    have nL:=h1 x (Lo ..)
    have fN:=h0 x (Lo ..)
    unfold Pl.nr at hx ⊢
    rw [kD] at hx ⊢
    unfold Pl.Xy at nL
    rcases LR.1 h.1 with rfl | hr
    · exact hx
    · have:=hp.1 u hr
      unfold Pl.Xy at this
      omega
theorem uS{a b:Int}(hb:0<b):∀ {l:List (Int×Int×Int)},l.Pairwise (fun x y=>Pl.Xy x≤y.1)→(∀ x∈l,0<x.2.1)→∀ u,u∈Pl.dA l a b↔u∈l∧Pl.nr a b u=true
 | [],_,_,u=>by simp [Pl.dA]
 | x::r,hp,h0,u=>by
  have Wc:=List.pairwise_cons.1 hp
  unfold Pl.dA
  by_cases hx:Pl.Xy x≤a
  · rw [List.dropWhile_cons,LI (by simpa using hx)]
    have ih:=uS (a:=a) hb (l:=r) Wc.2 (fun y hy=>h0 y (LX _ hy)) u
    unfold Pl.dA at ih
    rw [ih,LR]
    refine ⟨fun h=>⟨.inr h.1,h.2⟩,fun h=>⟨h.1.resolve_left fun e=>?_,h.2⟩⟩
    have h2:=h.2
    subst e
    unfold Pl.nr at h2
    rw [kD] at h2
    unfold Pl.Xy at hx
    omega
  · rw [List.dropWhile_cons,LH (by simpa using hx)]
    refine EA hb hp h0 (fun y hy=>?_) u
    rcases LR.1 hy with rfl | hr
    · omega
    · have:=Wc.1 y hr
      have:=h0 y hy
      unfold Pl.Xy at *
      omega
end Go.Proofs.YtaehgpeenaomcaaGreat
namespace Go.Pl
open Go Go.Cx Go.Proofs.YtaehgpeenaomcaaGreat
def cf(a b:aa):Bool:=decide (a.k=1)&&(Pl.aL b.to (Pl.aw b.cm) a.fr a.ln).isSome
def AS(cs:List aa)(k:Nat)(e:Int×Int):Prop:=∃ (i j:Nat) (a b:aa),e=((i:Int),(j:Int))∧i<k∧i≠j∧cs[i]?=some a∧cs[j]?=some b∧Pl.cf a b=true
end Go.Pl
namespace Go.Proofs.YtaehgpeenaomcaaGreat
open Go Go.Cx
theorem EB{es:Tl}{x:Int×Int×Int}:x∈Pl.eV es↔∃ j:Nat,es[j]?=some (x.1,x.2.1)∧x.2.2=(j:Int):=by
 unfold Pl.eV
 rw [List.mem_mapIdx]
 constructor
 · rintro ⟨i,h,rfl⟩; exact ⟨i,by rw [La h],rfl⟩
 · rintro ⟨j,h,h2⟩
   obtain ⟨hj,he⟩:=Le.1 h
   exact ⟨j,hj,by rw [he,← h2]⟩
theorem yL{cs:List aa}{ys:List (Int×Int×Int)}(hyp:ys.Perm (Pl.eV (cs.map Pl.nQ)))(ou:Pl.AK ys)(aq:∀ x∈ys,Pl.ZB x∧0<x.2.1){c:aa}(hk:c.k=1)(P6:0<c.ln)(z:Int) :
 z∈(Pl.dA ys c.fr c.ln).map (fun x=>x.2.2)↔∃ (j:Nat) (d:aa),z=(j:Int)∧cs[j]?=some d∧Pl.cf c d=true:=by
 simp only [Ln,uS P6 (OR ou) (fun x hx=>(aq x hx).2),hyp.mem_iff,EB,Lt,Option.map_eq_some_iff]
 unfold Pl.cf Pl.nr
 rw [LQ hk]
 simp only [Bool.true_and]
 constructor
 · rintro ⟨x,⟨⟨j,⟨d,hd,he⟩,hj⟩,ho⟩,rfl⟩
   unfold Pl.nQ at he
   simp only [Prod.mk.injEq] at he
   exact ⟨j,d,hj,hd,by rw [he.1,he.2]; exact ho⟩
 · rintro ⟨j,d,rfl,hd,ho⟩
   exact ⟨(d.to,Pl.aw d.cm,(j:Int)),⟨⟨j,⟨d,hd,rfl⟩,rfl⟩,ho⟩,rfl⟩
theorem AT(q:Tg)(cq:Nat)(cs:List aa)(w0:World)(hq:Rd w0 q (cs.flatMap JM))(hl:cs.length≤100)(b6:∀ c∈cs,Pl.av c.cm=0)(hd:(cs.map Pl.nQ).Pairwise Pl.KN):C Tryz.prog 124 [.slice q cs.length cq] w0 fun v w'=>∃ (mi:Nat) (p:Tg) (n c g:Nat) (b:ag) (ys:List (Int×Int×Int)),v=.pointer (some ⟨mi,0,none⟩)∧Acc 299 3 p n c (ys.flatMap ia) g b∧ys.Perm (Pl.eV (cs.map Pl.nQ))∧Pl.AK ys∧(∀ x∈ys,Pl.ZB x∧0<x.2.1)∧Mem w0 w' No [(mi,.row 297 [.slice p n c]),(g,b)]:=by
 have FI:∀ e∈cs.map Pl.nQ,Pl.AJ e:=fun e he=>by
  obtain ⟨c,hc,rfl⟩:=Ln.1 he
  have h1:=Pl.Jl (b6 c hc)
  have h2:c.cm.to=c.to:=rfl
  simp only [Pl.AJ,Pl.nQ]
  omega
 refine aH Tryz.func124 fun κ _ Je Jc hm=>?_
 refine au 8 ?_
 replace hm:=hm.JP
 have az:=Acc.nil 32 2 none 0
 refine au 11 ?_
 refine Jg (ι:=Nat×Ow) rfl (ks:=[2,6,7]) Tn (fun x=>[(8,.int .i64 (x.1:Int)),(3,.slice x.2.p x.2.n x.2.cap)]) (fun x w=>Mem w0 w No [(x.2.g,x.2.b)]∧Acc 32 2 x.2.p x.2.n x.2.cap (((cs.take x.1).map Pl.nQ).flatMap Q9) x.2.g x.2.b∧x.1≤cs.length∧x.2.n=x.1) (fun x=>cs.length-x.1) (0,⟨none,0,0,0,.gap⟩) (⟨hm,az,LL _,rfl⟩) Tm (fun x w hM=>?_)
 obtain ⟨k,dJ,KR,aM,cD,dK⟩:=x
 obtain ⟨hm,az,hk,hn⟩:=hM
 simp only at hm az hk hn ⊢
 refine au 6 ?_
 refine cd (fun ai=>?_) fun ai=>?_
 ·
  simp only [dT] at ai
  obtain ⟨c,hi⟩:∃ y_,cs[k]?=some y_:=⟨_,La Ta⟩
  obtain ⟨qb,qo,rfl⟩:=hq.bS Jf Tb hi
  refine au 7 ?_
  refine Ja rfl rfl (JU rfl ag60.h (hq.Jj hm.to).nt Jf hi)<|aT hm fun m1 w hm=>?_
  refine st hm 0 fun w hm=>?_
  refine au 5 ?_
  refine cA rfl rfl rfl (Vd c.cm c.d.p c.d.cap _) hm fun w hm=>Jb (l:=[_,_]) rfl rfl sl240.h z32.h rfl rfl rfl rfl rfl rfl rfl hm trivial fun m2 w bo hm hh=>Jy rfl rfl rfl rfl rfl rfl sl240.h sl240.h z32.h rfl rfl (Rd.JL (hm.get (k:=0) rfl)) rfl az hm 2 rfl Ta Ta fun dJ aM cD dK w az hm=>au 8 ?_
  exact next (k+1,⟨dJ,_,aM,cD,dK⟩) Td ⟨(hm.pick [2] rfl),az.to (uA hi),Td,Td⟩ ⟨nx k,Tm⟩
 ·
  simp only [dF] at ai
  have b8:k=cs.length:=by omega
  rw [b8,Lv] at az
  obtain rfl:=az.QB QM Tb
  refine au 8 ?_
  refine cT rfl rfl rfl (Wv dJ aM (cs.map Pl.nQ) _ (az.rd hm 0 rfl) (by rw [Lj]; omega) FI hd) fun v w hR=>?_
  obtain ⟨mi,bU,nm,WG,cQ,cL,ys,rfl,ay,hyp,ou,rE,ae⟩:=hR
  replace hm:=hm.Jt ae
  refine au 5 ?_
  exact ⟨mi,bU,_,WG,cQ,cL,ys,rfl,ay,hyp,ou,rE,(hm.pick [0,1] rfl)⟩
theorem KS{c:aa}(hc:Pl.av c.cm=0)(hk:c.k=1):0≤c.fr∧0<c.ln∧c.fr+c.ln≤4611686018427387903:=by
 have h:=Pl.Jl hc
 have h1:c.cm.k=c.k:=rfl
 have h2:c.cm.fr=c.fr:=rfl
 have h3:c.cm.ln=c.ln:=rfl
 omega
theorem EC(cs:List aa)(e:Int×Int):¬ Pl.AS cs 0 e:=fun ⟨_,_,_,_,_,h,_⟩=>absurd h (Nat.not_lt_zero _)
theorem H3{cs:List aa}{k:Nat}{c:aa}(hi:cs[k]?=some c)(hk:c.k≠1)(e:Int×Int):Pl.AS cs (k+1) e↔Pl.AS cs k e:=by
 constructor
 · rintro ⟨i,j,a,b,rfl,h1,h2,h3,h4,h5⟩
   refine ⟨i,j,a,b,rfl,?_,h2,h3,h4,h5⟩
   rcases L7 i k with h | h
   · exact h
   · obtain rfl:i=k:=by omega
     rw [hi] at h3; cases h3
     unfold Pl.cf at h5
     simp [hk] at h5
 · rintro ⟨i,j,a,b,rfl,h1,h⟩; exact ⟨i,j,a,b,rfl,Ta,h⟩
theorem ED{cs:List aa}{k:Nat}{c:aa}(hi:cs[k]?=some c)(e:Int×Int):Pl.AS cs (k+1) e↔Pl.AS cs k e∨∃ (z:Int),(∃ (j:Nat) (d:aa),z=(j:Int)∧cs[j]?=some d∧Pl.cf c d=true)∧e=((k:Int),z)∧(k:Int)≠z:=by
 constructor
 · rintro ⟨i,j,a,b,rfl,h1,h2,h3,h4,h5⟩
   rcases L7 i k with h | h
   · exact .inl ⟨i,j,a,b,rfl,h,h2,h3,h4,h5⟩
   · obtain rfl:i=k:=by omega
     rw [hi] at h3; cases h3
     exact .inr ⟨j,⟨j,b,rfl,h4,h5⟩,rfl,Ta⟩
 · rintro (⟨i,j,a,b,rfl,h1,h⟩ | ⟨z,⟨j,d,rfl,h1,h2⟩,rfl,h3⟩)
   · exact ⟨i,j,a,b,rfl,Ta,h⟩
   · exact ⟨k,j,c,d,rfl,Ta,Ta,hi,h1,h2⟩
theorem EE{n:Nat}{E:Tl}{i j:Int}(h:0≤i∧i<n∧0≤j∧j<n)(e:Int×Int):e∈Pl.ie n E (i,j)↔e∈E∨(e=(i,j)∧i≠j):=by
 by_cases eZ:i=j
 · unfold Pl.ie
   rw [LH (by simp [Pl.KI,eZ])]
   simp [eZ]
 · rw [Pl.uI (a:=(i,j)) ⟨h.1,h.2.1,h.2.2.1,h.2.2.2,eZ⟩]
   simp [eZ]
theorem EF{A:Prop}{e:Int×Int}{k x:Int}{l:Tj}:((A∨∃ z,z∈l∧e=(k,z)∧k≠z)∨e=(k,x)∧k≠x)↔A∨∃ z,z∈l++[x]∧e=(k,z)∧k≠z:=by
 constructor
 · rintro ((h | ⟨z,h1,h2⟩) | h)
   · exact .inl h
   · exact .inr ⟨z,Lw _ h1,h2⟩
   · exact .inr ⟨x,Tc,h⟩
 · rintro (h | ⟨z,h1,h2⟩)
   · exact .inl (.inl h)
   · rcases Ls.1 h1 with h1 | h1
     · exact .inl (.inr ⟨z,h1,h2⟩)
     · rw [Lf.1 h1] at h2; exact .inr h2
theorem EG(l:List (Int×Int×Int))(a b:Int):(Pl.dA l a b).length≤l.length:=Ki (List.takeWhile_sublist _).length_le (List.dropWhile_sublist _).length_le
theorem H4(q:Tg)(cq:Nat)(cs:List aa)(w0:World)(hq:Rd w0 q (cs.flatMap JM))(hl:cs.length≤100)(b6:∀ c∈cs,Pl.av c.cm=0)(hd:(cs.map Pl.nQ).Pairwise Pl.KN):C Tryz.prog 96 [.slice q cs.length cq] w0 fun v w'=>∃ (E:Tl) (mh:Nat) (Zh:Tf),v=.pointer (some ⟨mh,0,none⟩)∧QP 239 3 cs.length E mh Zh∧E.length≤10000∧(∀ e,e∈E↔Pl.AS cs cs.length e)∧Mem w0 w' No Zh:=by
 refine aH Tryz.func96 fun κ _ Je Jc hm=>?_
 refine au 9 ?_
 refine cT rfl rfl rfl (KO cs.length _ Ta) fun v w hR=>?_
 obtain ⟨mh,Zh,rfl,uR,ae⟩:=hR
 replace hm:=hm.XR ae
 refine au 6 ?_
 refine cT rfl rfl rfl (AT q cq cs _ (hq.Jj hm.to) hl b6 hd) fun v w hR=>?_
 obtain ⟨mi,bU,nm,WG,cQ,cL,ys,rfl,ay,hyp,ou,rE,ae⟩:=hR
 replace hm:=hm.Jt ae
 obtain rfl:=ay.QB Q8 Tb
 have fz:=hyp.length_eq
 rw [Yb,Lj] at fz
 refine au 12 ?_
 refine Jg (ι:=Nat×List (Int×Int)×List (Nat×ag)) rfl (ks:=[2,3,4,16,17]) Tn (fun x=>[(18,.int .i64 (x.1:Int))]) (fun x w=>Mem w0 w No ((mi,.row 297 [.slice bU ys.length WG])::(cQ,cL)::x.2.2)∧QP 239 3 cs.length x.2.1 mh x.2.2∧(∀ e,e∈x.2.1↔Pl.AS cs x.1 e)∧x.1≤cs.length∧x.2.1.length≤100*x.1) (fun x=>cs.length-x.1) (0,[],Zh) (⟨(hm.Jp [0,1] 2 rfl),uR,fun e=>⟨fun h=>by simp at h,fun h=>absurd h (EC cs e)⟩,LL _,LL _⟩) Tm (fun x w hM=>?_)
 obtain ⟨k,E1,Z1⟩:=x
 obtain ⟨hm,bZ,vn,hk,ya⟩:=hM
 simp only at hm bZ vn hk ya ⊢
 refine au 6 ?_
 refine cd (fun ai=>?_) fun ai=>?_
 ·
  simp only [dT] at ai
  obtain ⟨c,hi⟩:∃ y_,cs[k]?=some y_:=⟨_,La Ta⟩
  obtain ⟨qb,qo,rfl⟩:=hq.bS Jf Tb hi
  have ko:=b6 c (Ld hi)
  refine au 8 ?_
  refine Ja rfl rfl (JU rfl ag60.h (hq.Jj hm.to).nt Jf hi)<|aT hm fun mc w hm=>?_
  refine au 1 ?_
  refine st hm 0 fun w hm=>?_
  refine au 5 ?_
  refine cA rfl rfl rfl (VI c.cm c.d.p c.d.cap _) hm fun w hm=>au 3 ?_
  refine aT hm fun ms w hm=>?_
  refine st hm 0 fun w hm=>?_
  refine au 8 ?_
  refine cd (fun ao=>?_) fun ao=>?_
  ·
   simp only [dT] at ao
   have dq:c.k=1:=ao
   have ef:=KS ko dq
   have oq:Q9 (Pl.br c.cm)=[.int .i64 c.fr,.int .i64 c.ln]:=by unfold Pl.br; rw [LI ao]; rfl
   have hhl:=EG ys c.fr c.ln
   refine au 3 ?_
   refine Ja rfl rfl (cy (Jm (s:=2) (vs:=[_,_]) rfl ag32.h (hm.nt 0 rfl) rfl) (LM (fun x=>Value.agg ⟨x⟩) oq))<|cT rfl rfl rfl (Of mi bU WG ys _ (hm.get (k:=2) rfl) (ay.rd hm 3 rfl) Ta (fun x hx=>(rE x hx).1) c.fr c.ln (OJ ou rE) Ta) fun v w hR=>?_
   obtain ⟨p_h,n_h,KD,g_h,b_h,rfl,wQ,ae⟩:=hR
   replace hm:=hm.Jt ae
   obtain rfl:=wQ.QB Jq Tb
   have Kp:((Pl.dA ys c.fr c.ln).map fun x=>x.2.2).length=(Pl.dA ys c.fr c.ln).length:=Lj _
   refine au 5 ?_
   refine Jg (ι:=Nat×List (Int×Int)×List (Nat×ag)) rfl (ks:=[2,3,4,5,16,17,18,31,32]) Tn (fun y=>[(33,.int .i64 (y.1:Int))]) (fun y w=>Mem w0 w No ((g_h,b_h)::(mc,.row 60 (JM c))::(ms,.row 32 [.int .i64 c.fr,.int .i64 c.ln])::(mi,.row 297 [.slice bU ys.length WG])::(cQ,cL)::y.2.2)∧QP 239 3 cs.length y.2.1 mh y.2.2∧(∀ e,e∈y.2.1↔Pl.AS cs k e∨∃ z,z∈((Pl.dA ys c.fr c.ln).map fun x=>x.2.2).take y.1∧e=((k:Int),z)∧(k:Int)≠z)∧y.1≤((Pl.dA ys c.fr c.ln).map fun x=>x.2.2).length∧y.2.1.length≤100*k+y.1) (fun y=>((Pl.dA ys c.fr c.ln).map fun x=>x.2.2).length-y.1) (0,E1,Z1) (⟨by rw [← oq]; exact (hm.Jp [0,2,1,3,4] 5 rfl),bZ,fun e=>by rw [vn]; simp,LL _,ya⟩) Tm (fun y w hM=>?_)
   obtain ⟨k2,E2,Z2⟩:=y
   obtain ⟨hm,da,OS,iB,jbK⟩:=hM
   simp only at hm da OS iB jbK ⊢
   refine au 6 ?_
   refine cd (fun aD=>?_) fun aD=>?_
   ·
    simp only [dT] at aD
    obtain ⟨z,dY⟩:∃ y_,((Pl.dA ys c.fr c.ln).map fun x=>x.2.2)[k2]?=some y_:=⟨_,La Ta⟩
    obtain ⟨qb,qo,rfl⟩:=(wQ.rd hm 0 rfl).bS Jq Tb dY
    obtain ⟨jz,dz,rfl,hjz,-⟩:=(yL hyp ou rE dq ef.2.1 z).1 (Ld dY)
    have NT:=(Le.1 hjz).1
    refine au 7 ?_
    refine Ja rfl rfl (J3 rfl sc3.h (wQ.rd hm 0 rfl).nt Jq dY rfl)<|au 8 ?_
    refine Jb (l:=[_,_]) rfl rfl sl243.h z201.h rfl rfl rfl rfl rfl rfl rfl hm trivial fun m3 w dX hm hh=>cT rfl rfl rfl (KP cs.length mh E2 Z2 _ (Jr.right (A:=[_,_,_,_,_,_]) hm.Jz) da Ta _ _ [((k:Int),(jz:Int))] (Rd.JL (hm.get (k:=0) rfl)) (fun _ ad h=>by cases h; exact Mem.qG (A:=[_,_,_,_,_,_]) hm (k:=0) rfl) Tc) fun v w hR=>?_
    obtain ⟨c9,Z9,rfl,eC,ae⟩:=hR
    replace hm:=Mem.JQ (A:=[_,_,_,_,_,_]) hm ae
    refine au 7 ?_
    exact next (k2+1,Pl.eb cs.length E2 [((k:Int),(jz:Int))],Z9) Td ⟨(hm.Jp [1,2,3,4,5] 6 rfl),eC,fun u=>by simp only; rw [show Pl.eb cs.length E2 [((k:Int),(jz:Int))]=Pl.ie cs.length E2 ((k:Int),(jz:Int)) from rfl,EE Ta,OS,QG dY]; exact EF,Td,by have:=ik cs.length [((k:Int),(jz:Int))] E2; simp only [LG] at *; omega⟩ ⟨nx k2,Tm⟩
   ·
    simp only [dF] at aD
    have EH:k2=((Pl.dA ys c.fr c.ln).map fun x=>x.2.2).length:=by omega
    refine au 10 ?_
    exact next (k+1,E2,Z2) Td ⟨(hm.Jp [3,4] 5 rfl),da,fun u=>by simp only; rw [ED hi,OS,EH,Lv]; simp only [yL hyp ou rE dq ef.2.1],Td,Td⟩ ⟨nx k,Tm⟩
  ·
   simp only [dF] at ao
   have dq:c.k≠1:=ao
   refine au 7 ?_
   exact next (k+1,E1,Z1) Td ⟨(hm.Jp [2,3] 4 rfl),bZ,fun u=>by simp only; rw [H3 hi dq,vn],Td,Td⟩ ⟨nx k,Tm⟩
 ·
  simp only [dF] at ai
  have b8:k=cs.length:=by omega
  rw [b8] at vn
  refine au 13 ?_
  exact ⟨E1,mh,Z1,rfl,bZ,Ta,vn,(hm.Jp [] 2 rfl)⟩
theorem mg110:MK Tryz.prog 110 iD (.int .i64 0):=.i Te
theorem jbL(p:Tg)(cap:Nat)(xs:Tj)(x:Int)(w0:World)(hr:Rd w0 p (xs.flatMap Cx.encI))(hl:xs.length≤1000000000)(hs:xs.Pairwise (·≤·))(hn:x∉xs):C Tryz.prog 163 [.slice p xs.length cap,.int .i64 x] w0 fun v w'=>v=.tuple ⟨[.int .i64 ((xs.countP (·<x):Nat):Int),.bool false]⟩∧Ext No w0 w':=bsI jbz p cap xs x w0 hr hl hs hn
theorem WH(p:Tg)(cap:Nat)(xs:Tj)(g:Nat)(b:ag)(i:Nat)(x:Int)(vb vc:Nat)(w0:World)(ha:Zo 3 xs.length cap p xs g b)(hr:b.real=true→w0.heap[g]?=some b.Jd)(hv:w0.heap[vb]?=some (ag.row 3 [.int .i64 x]).Jd)(hg:b.real=true→vb≠g)(hl:xs.length≤1000000000)(hi:i≤xs.length)(AE:cap≤9223372036854775807) :
 C Tryz.prog 164 [.slice p xs.length cap,.int .i64 (i:Int),.slice (some ⟨vb,0,none⟩) 1 vc] w0 fun v w'=>∃ p' aV g' b',v=.slice p' (xs.length+1) aV∧Zo 3 (xs.length+1) aV p' (xs.take i++x::xs.drop i) g' b'∧Ot w0 w' g b g' b'∧aV≤9223372036854775807:=jbs jbA rfl p cap xs g b i x vb vc w0 ha hr hv hg hl hi AE
theorem uT(n m:Nat)(E:Tl)(Z:Tf)(w0:World)(hZ:Jr w0 Z)(hz:QP 239 3 n E m Z)(hE:E.length≤1000000)(sk:Tg)(AR:Nat)(ss:Tj)(hs:Rd w0 sk (ss.flatMap Cx.encI))(jn:ss.length≤1000000):C Tryz.prog 128 [.pointer (some ⟨m,0,none⟩),.slice sk ss.length AR] w0 fun v w'=>∃ (p:Tg) (k c g:Nat) (b:ag) (out:Tj) (md:Nat) (es:cG Int) (ck:Nat) (K:Tj) (f:Int→Int),v=.tuple ⟨[.slice p k c,.map (some md)]⟩∧Acc 3 1 p k c (out.flatMap Cx.encI) g b∧bV es ck K f∧Pl.Kahn E (Pl.ea ss n) out K∧(∀ v∈K,∃ u∈Pl.ins E v,u∈K)∧Mem w0 w' No [(g,b),(md,fm iD es ck)]:=by
 have Fu:=hz
 have nk:=hE
 have hle:n≤1048576:=by obtain ⟨_,_,_,_,_,_,_,_,_,hg,_⟩:=hz; exact hg.le
 obtain ⟨me,mo,mi,ee,ce,lo,li,co,ci,hg,rfl⟩:=hz
 have ko:=fun v w9 (Eu:Ext No w0 w9)=>jg sk AR ss v w9 (hs.Jj Eu) Ta
 refine aH Tryz.func128 fun κ _ Je Jc hm=>?_
 refine au 8 ?_
 refine ic iD rfl rfl hm trivial fun md w il hm hh=>au 7 ?_
 refine cA rfl rfl rfl (yK n m _ _ (Qp hm.to (hZ.get (k:=0) rfl))) hm fun w hm=>au 4 ?_
 refine Jg (ι:=Nat×cG Int×Nat) rfl (ks:=[0,1,4,5,6,27]) Tn (fun x=>[(28,.int .i64 (x.1:Int))]) (fun x w=>Mem w0 w No [(md,fm iD x.2.1 x.2.2)]∧bV x.2.1 x.2.2 (Pl.ea ss x.1) (fun _=>0)∧x.1≤n) (fun x=>n-x.1) (0,[],0) (⟨hm,bV.nil _,LL _⟩) Tm (fun x w hM=>?_)
 obtain ⟨k,es,ck⟩:=x
 obtain ⟨hm,vz,hk⟩:=hM
 simp only at hm vz hk ⊢
 refine au 6 ?_
 refine cd (fun ai=>?_) fun ai=>?_
 ·
  simp only [dT] at ai
  refine au 14 ?_
  refine cA rfl rfl rfl (ko k _ hm.to) hm fun w hm=>au 3 ?_
  refine cd (fun ao=>?_) fun ao=>?_
  ·
   simp only [bE,dF] at ao
   refine au 3 ?_
   refine ZI (kk:=(k:Int)) rfl rfl rfl rfl rfl mg110 hm 0 rfl fun w hm=>au 7 ?_
   exact next (k+1,VS es ck k (.int .i64 0),vw es ck k) Td ⟨(hm.pick [0] rfl),by rw [Pl.uM,LI ao]; exact vz.new (fun _ _=>rfl) rfl,Td⟩ ⟨nx k,Tm⟩
  ·
   simp only [bF,dT] at ao
   refine au 7 ?_
   exact next (k+1,es,ck) Td ⟨(hm.pick [0] rfl),by rw [Pl.uM,LH (fun h=>h ao),Lq]; exact vz,Td⟩ ⟨nx k,Tm⟩
 ·
  simp only [dF] at ai
  have b8:k=n:=by omega
  rw [b8] at vz
  refine au 9 ?_
  refine nu rfl rfl rfl un110 (hm.get (k:=0) rfl) hm fun it w hm=>au 3 ?_
  refine Jg (ι:=cG Int×List (Int×Unit×Nat)) rfl (ks:=[0,4,5,6,39]) Tn (fun x=>[]) (fun x w=>Mem w0 w No [(it,.obj (.mapIter (some md) ck ⟨x.2.map (·.2.2)⟩ ck)),(md,fm iD x.1 ck)]∧x.1.map nS=es.map nS∧uG (es.map nS) x.2∧bV x.1 ck (Pl.ea ss n) (fun v=>if v∈x.2.map (·.1) then (Pl.dg E (Pl.ea ss n) v:Int) else 0)) (fun x=>(es.map nS).length-x.2.length) (es,[]) (⟨hm,rfl,uG.nil _,vz.to (fun _ _=>by simp)⟩) trivial (fun x w hM=>?_)
  obtain ⟨IT,P7⟩:=x
  obtain ⟨hm,zb,hv,AV⟩:=hM
  simp only at hm zb hv AV ⊢
  refine au 1 ?_
  rcases Ec (P:=Tryz.prog) (hm.get (k:=0) rfl) (hm.get (k:=1) rfl) AV.wf with ⟨cI,aN⟩ | ⟨e,he,bR,w1,AO,fS,aN⟩
  ·
   have OT:bV IT ck (Pl.ea ss n) (fun v=>(Pl.dg E (Pl.ea ss n) v:Int)):=AV.to fun v hv9=>by rw [LI ((HU zb hv vz.wf cI v).2 ((vz.keys v).2 hv9))]
   refine au 1 ?_
   refine rB rfl rfl rfl aN<|au 13 ?_
   replace hm:=hm.JP
   have az:=Acc.nil 3 1 none 0
   refine au 1 ?_
   replace hm:=hm.JP
   have bq:=Acc.nil 3 1 none 0
   refine au 6 ?_
   refine cA rfl rfl rfl (yK n m _ _ (Qp hm.to (hZ.get (k:=0) rfl))) hm fun w hm=>au 4 ?_
   refine Jg (ι:=Nat×Ow) rfl (ks:=[0,4,5,6,13,65]) Tn (fun x=>[(66,.int .i64 (x.1:Int)),(14,.slice x.2.p x.2.n x.2.cap)]) (fun x w=>Mem w0 w No [(x.2.g,x.2.b),(0,.gap),(md,fm iD IT ck)]∧Acc 3 1 x.2.p x.2.n x.2.cap ((Pl.KM E (Pl.ea ss n) x.1).flatMap Cx.encI) x.2.g x.2.b∧x.1≤n∧x.2.cap≤9223372036854775807) (fun x=>n-x.1) (0,⟨none,0,0,0,.gap⟩) (⟨(hm.pick [0,1,3] rfl),bq,LL _,Tb⟩) Tm (fun x w hM=>?_)
   obtain ⟨k,nB,n_r,cx,ov,ow⟩:=x
   obtain ⟨hm,bq,hk,c7⟩:=hM
   simp only at hm bq hk c7 ⊢
   obtain rfl:=bq.QB Jq Tb
   have Cy:(Pl.KM E (Pl.ea ss n) k).length≤k:=by unfold Pl.KM; exact Ki (List.length_filter_le ..) (Nat.le_of_eq (Pl.Qj k))
   refine au 6 ?_
   refine cd (fun uq=>?_) fun uq=>?_
   ·
    simp only [dT] at uq
    refine au 14 ?_
    refine Ja rfl rfl (kC (kk:=(k:Int)) rfl rfl rfl mg110 (hm.nt 2 rfl))<|au 1 ?_
    refine Ja rfl rfl (cy (J7 rfl rfl) (OT.getD k))<|Ja rfl rfl (cy (J7 rfl rfl) (LM Value.bool (OT.has k)))<|au 13 ?_
    refine cd (fun jX=>?_) fun jX=>?_
    ·
     simp only [bA,dT] at jX
     have P8:(k:Int)∈(Pl.ea ss n)∧Pl.dg E (Pl.ea ss n) k=0:=⟨jX.1,by have:=jX.2; rw [LI jX.1] at this; omega⟩
     refine au 3 ?_
     refine Jb (l:=[_]) rfl rfl sl134.h z3.h rfl rfl rfl rfl rfl rfl rfl hm trivial fun m1 w c5 hm hh=>AF rfl rfl rfl rfl rfl rfl sl134.h sl134.h z3.h rfl rfl (Rd.JL (hm.get (k:=0) rfl)) rfl bq hm 1 rfl Ta Ta c7 fun nB cx ov ow w bq hm c7=>au 8 ?_
     exact next (k+1,⟨nB,_,cx,ov,ow⟩) Td ⟨(hm.pick [1,2,3] rfl),bq.to (by simp only; rw [Pl.uN,LI P8,Lh]; rfl),Td,c7⟩ ⟨nx k,Tm⟩
    ·
     have P8:¬ ((k:Int)∈(Pl.ea ss n)∧Pl.dg E (Pl.ea ss n) k=0):=fun h=>by simp [h.1,h.2] at jX
     refine au 7 ?_
     exact next (k+1,⟨nB,_,cx,ov,ow⟩) Td ⟨(hm.pick [0,1,2] rfl),bq.to (by simp only; rw [Pl.uN,LH P8,Lq]),Td,c7⟩ ⟨nx k,Tm⟩
   ·
    simp only [dF] at uq
    have b8:n=k:=by omega
    subst b8
    have bq:=Zo.of bq
    have vS:=Pl.OB (E:=E) (K:=(Pl.ea ss n)) (n:=n) (fun v hv=>by have:=Pl.Vh.1 hv; omega)
    have Bq:(Pl.ea ss n).length≤n:=by unfold Pl.ea; exact Ki (List.length_filter_le ..) (Nat.le_of_eq (Pl.Qj n))
    refine au 7 ?_
    refine Jg (ι:=Ow×Ow×List Int×List Int×cG Int×List Int) rfl (ks:=[0,4,5,6]) Tn (fun x=>[(13,.slice x.1.p x.1.n x.1.cap),(14,.slice x.2.1.p x.2.1.n x.2.1.cap)]) (fun x w=>Mem w0 w No [(x.2.1.g,x.2.1.b),(x.1.g,x.1.b),(md,fm iD x.2.2.2.2.1 ck)]∧Zo 3 x.2.1.n x.2.1.cap x.2.1.p x.2.2.2.1 x.2.1.g x.2.1.b∧x.2.1.cap≤9223372036854775807∧Acc 3 1 x.1.p x.1.n x.1.cap (x.2.2.1.flatMap Cx.encI) x.1.g x.1.b∧bV x.2.2.2.2.1 ck x.2.2.2.2.2 (fun v=>(Pl.dg E x.2.2.2.2.2 v:Int))∧Pl.Kahn E (Pl.ea ss n) x.2.2.1 x.2.2.2.2.2∧Pl.KahnR E x.2.2.2.2.2 x.2.2.2.1 (fun v=>(Pl.dg E x.2.2.2.2.2 v:Int))∧x.2.2.2.2.2.length+x.2.2.1.length≤n) (fun x=>x.2.2.2.2.2.length) (⟨none,0,0,0,.gap⟩,⟨nB,_,cx,ov,ow⟩,[],_,IT,_) (⟨(hm.pick [0,1,2] rfl),bq,c7,az,OT,Pl.Kahn.start E _,vS,by simp only [LA,Nat.add_zero]; exact Bq⟩) Tm (fun x w hM=>?_)
    obtain ⟨⟨dJ,KR,aM,cD,dK⟩,⟨nB,n_r,cx,ov,ow⟩,ol,rl,es,Ks⟩:=x
    obtain ⟨hm,bq,c7,az,vz,fh,vS,tY⟩:=hM
    simp only at hm bq c7 az vz fh vS tY ⊢
    obtain rfl:=az.QB Jq Tb
    obtain rfl:=bq.1
    have hrle:=vS.le
    have ND:=bq.le
    refine au 8 ?_
    refine cd (fun Kz=>?_) fun Kz=>?_
    ·
     simp only [dT] at Kz
     obtain ⟨vv,rl,rfl⟩:∃ a l,rl=a::l:=by cases rl with | nil=>simp at Kz | cons a l=>exact ⟨a,l,rfl⟩
     have hi:(vv::rl)[0]?=some vv:=rfl
     obtain ⟨qb,qo,rfl⟩:=(bq.rd hm 0 rfl).bS Jq Tb hi
     have FJ:vv∈Ks:=((vS.mem vv).1 (Lo ..)).1
     have H5:Pl.dg E Ks vv=0:=by have:=((vS.mem vv).1 (Lo ..)).2; omega
     have jbM:=fh.pop FJ H5
     have WI:(Ks.filter fun u=>decide (u≠vv)).length<Ks.length:=List.length_filter_lt_length_iff_exists.2 ⟨vv,FJ,Tc⟩
     have Et:=Pl.Yj E vv
     have hsl9:(Pl.dP (Pl.outs E vv)).length≤E.length:=by rw [(Pl.Q3 _).length_eq]; exact Et
     have hln9:(vv::rl).length=rl.length+1:=rfl
     refine au 7 ?_
     refine Ja rfl rfl (J3 rfl sc3.h (bq.rd hm 0 rfl).nt Jq hi rfl)<|au 6 ?_
     refine Ja rfl rfl (JE (ln:=1) (hn:=(rl.length+1)) rfl sl134.h ⟨_,rfl⟩ rfl Ta Ta (fun h ad e=>by cases e; rfl)) ?_
     replace bq:=bq.tail
     have c7:cx-1≤9223372036854775807:=by omega
     refine au 7 ?_
     refine Oj (kk:=vv) rfl rfl rfl rfl mg110 hm 2 rfl fun w hm=>au 6 ?_
     refine Jb (l:=[_]) rfl rfl sl134.h z3.h rfl rfl rfl rfl rfl rfl rfl hm trivial fun m1 w c5 hm hh=>Jy rfl rfl rfl rfl rfl rfl sl134.h sl134.h z3.h rfl rfl (Rd.JL (hm.get (k:=0) rfl)) rfl az hm 2 rfl Ta Ta fun dJ aM cD dK w az hm=>au 7 ?_
     refine cT rfl rfl rfl (IS n m E _ _ (hZ.ext hm.to) Fu nk vv) fun v w hR=>?_
     obtain ⟨bU,nm,aB,cQ,cL,rfl,ay,ae⟩:=hR
     replace hm:=hm.Jt ae
     obtain rfl:=ay.QB Jq Tb
     refine au 5 ?_
     refine Jg (ι:=Nat×Ow×List Int×cG Int) rfl (ks:=[0,4,5,6,13,101,102]) Tn (fun y=>[(103,.int .i64 (y.1:Int)),(14,.slice y.2.1.p y.2.1.n y.2.1.cap)]) (fun y w=>Mem w0 w No [(y.2.1.g,y.2.1.b),(cD,dK),(cQ,cL),(md,fm iD y.2.2.2 ck)]∧Zo 3 y.2.1.n y.2.1.cap y.2.1.p y.2.2.1 y.2.1.g y.2.1.b∧y.2.1.cap≤9223372036854775807∧bV y.2.2.2 ck (Ks.filter fun u=>decide (u≠vv)) (fun v=>(Pl.dg E Ks v:Int)-(if v∈(Pl.dP (Pl.outs E vv)).take y.1 then 1 else 0))∧Pl.KahnR E (Ks.filter fun u=>decide (u≠vv)) y.2.2.1 (fun v=>(Pl.dg E Ks v:Int)-(if v∈(Pl.dP (Pl.outs E vv)).take y.1 then 1 else 0))∧y.1≤(Pl.dP (Pl.outs E vv)).length) (fun y=>(Pl.dP (Pl.outs E vv)).length-y.1) (0,⟨_,_,_,ov,ow⟩,rl,_) (⟨(hm.pick [2,3,0,4] rfl),bq,c7,(vz.del vv).to (fun v _=>by simp),vS.tail.to (fun v=>by simp),LL _⟩) Tm (fun y w hM=>?_)
     obtain ⟨k2,⟨nB,n_r,cx,ov,ow⟩,FL,FM⟩:=y
     obtain ⟨hm,bq,c7,eW,wV,iB⟩:=hM
     simp only at hm bq c7 eW wV iB ⊢
     obtain rfl:=bq.1
     have jct:=wV.le
     refine au 6 ?_
     refine cd (fun Av=>?_) fun Av=>?_
     ·
      simp only [dT] at Av
      obtain ⟨z,dY⟩:∃ y_,(Pl.dP (Pl.outs E vv))[k2]?=some y_:=⟨_,La Ta⟩
      obtain ⟨qb,qo,rfl⟩:=(ay.rd hm 2 rfl).bS Jq Tb dY
      have kz:=QG dY
      have hzn:z∉(Pl.dP (Pl.outs E vv)).take k2:=Er (Pl.wT hg.nd vv) dY
      have UZ:z∈Pl.outs E vv:=(Pl.Q3 _).mem_iff.1 (Ld dY)
      have hzd:=Pl.Eo hg.nd FJ z
      rw [LI UZ] at hzd
      refine au 7 ?_
      refine Ja rfl rfl (J3 rfl sc3.h (ay.rd hm 2 rfl).nt Jq dY rfl)<|au 8 ?_
      refine Ja rfl rfl (kC (kk:=z) rfl rfl rfl mg110 (hm.nt 3 rfl))<|au 2 ?_
      refine Ja rfl rfl (cy (J7 rfl rfl) (LM Value.bool (eW.has z)))<|au 10 ?_
      refine cd (fun nP=>?_) fun nP=>?_
      ·
       simp only [bE,dF] at nP
       have KT:∀ v∈(Ks.filter fun u=>decide (u≠vv)),(fun v=>(Pl.dg E Ks v:Int)-(if v∈(Pl.dP (Pl.outs E vv)).take k2 then 1 else 0)) v=(fun v=>(Pl.dg E Ks v:Int)-(if v∈(Pl.dP (Pl.outs E vv)).take (k2+1) then 1 else 0)) v:=fun v hv=>by simp only [kz,Ls,Lf]; exact if OU:v=z then absurd (OU▸hv) nP else (by simp only [OU,or_false])
       refine au 8 ?_
       exact next (k2+1,⟨nB,_,cx,ov,ow⟩,FL,FM) Td ⟨(hm.pick [0,1,2,3] rfl),bq,c7,eW.to KT,wV.to (fun v=>and_congr_right fun hv=>iff_of_eq (LM (fun q:Int=>q=0) (KT v hv))),Td⟩ ⟨nx k2,Tm⟩
      ·
       simp only [bF,dT] at nP
       have hdv:(cE FM z).getD (.int .i64 0)=.int .i64 ((Pl.dg E Ks z:Nat):Int):=by rw [eW.get nP]; simp only [LH hzn,Int.sub_zero]
       have jbN:=Pl.rD E z
       have jcu:Pl.dg E Ks z≤E.length:=Ki (List.length_filter_le ..) jbN
       have OV:∀ v∈(Ks.filter fun u=>decide (u≠vv)),v≠z→(fun v=>(Pl.dg E Ks v:Int)-(if v∈(Pl.dP (Pl.outs E vv)).take k2 then 1 else 0)) v=(fun v=>(Pl.dg E Ks v:Int)-(if v∈(Pl.dP (Pl.outs E vv)).take (k2+1) then 1 else 0)) v:=fun v _ OU=>by simp only [kz,Ls,Lf,OU,or_false]
       have ql:(fun v=>(Pl.dg E Ks v:Int)-(if v∈(Pl.dP (Pl.outs E vv)).take (k2+1) then 1 else 0)) z=(Pl.dg E Ks z:Int)-1:=by simp only [kz,Ls,Lf,or_true,if_true]
       refine au 6 ?_
       refine Ja rfl rfl (cy (Vz (kk:=z) rfl rfl rfl mg110 (hm.nt 3 rfl)) hdv)<|au 1 ?_
       refine ZI (kk:=z) rfl rfl rfl rfl rfl mg110 hm 3 rfl fun w hm=>?_
       have H6:=eW.set nP OV ql
       rw [eW.cks nP] at H6 hm
       refine au 6 ?_
       refine Ja rfl rfl (cy (Vz (kk:=z) rfl rfl rfl mg110 (hm.nt 3 rfl)) ((H6.get nP).trans (LM (Value.int .i64) ql)))<|au 3 ?_
       refine cd (fun jZ=>?_) fun jZ=>?_
       ·
        simp only [dT] at jZ
        obtain ⟨Hw,jbO⟩:=wV.put (w:=z) nP (by simp only [LH hzn]; omega) (ql.trans jZ) OV
        refine au 4 ?_
        refine cA rfl rfl rfl (jbL nB cx FL z _ (bq.rd hm 0 rfl) Ta (wV.lt.imp fun h=>Int.le_of_lt h) Hw) hm fun w hm=>au 11 ?_
        refine Jb (l:=[_]) rfl rfl sl134.h z3.h rfl rfl rfl rfl rfl rfl rfl hm trivial fun m7 w Dz hm hh=>cT rfl rfl rfl (WH nB cx FL ov ow (FL.countP (·<z)) z m7 1 _ bq (fun h9=>hm.nV (k:=1) rfl h9) (hm.get (k:=0) rfl) (fun h9 e9=>hm.neB 0 1 rfl rfl rfl rfl ⟨e9,h9⟩) Ta List.countP_le_length c7) fun v w hR=>?_
        obtain ⟨nB,cx,ov,ow,rfl,bq,jbP,c7⟩:=hR
        replace hm:=hm.Wh 1 rfl jbP
        refine au 8 ?_
        exact next (k2+1,⟨nB,_,cx,ov,ow⟩,FL.take (FL.countP (·<z))++z::FL.drop (FL.countP (·<z)),VS FM ck z (.int .i64 _)) Td ⟨(hm.pick [1,2,3,4] rfl),bq,c7,H6,jbO,Td⟩ ⟨nx k2,Tm⟩
       ·
        simp only [dF] at jZ
        rw [← ql] at jZ
        refine au 7 ?_
        exact next (k2+1,⟨nB,_,cx,ov,ow⟩,FL,VS FM ck z (.int .i64 _)) Td ⟨(hm.pick [0,1,2,3] rfl),bq,c7,H6,wV.to (fun v=>and_congr_right fun hv=>if OU:v=z then (by subst OU; exact ⟨fun h=>absurd h (by simp only [LH hzn]; omega),fun h=>absurd h jZ⟩) else iff_of_eq (LM (fun q:Int=>q=0) (OV v hv OU))),Td⟩ ⟨nx k2,Tm⟩
     ·
      simp only [dF] at Av
      have EH:k2=(Pl.dP (Pl.outs E vv)).length:=by omega
      have wR:∀ v,(Pl.dg E Ks v:Int)-(if v∈(Pl.dP (Pl.outs E vv)).take k2 then 1 else 0)=(Pl.dg E (Ks.filter fun u=>decide (u≠vv)) v:Int):=fun v=>by rw [EH,Lv]; have h9:=Pl.Eo hg.nd FJ v; simp only [(Pl.Q3 _).mem_iff]; split at h9 <;> rename_i h <;> simp only [h,if_true,if_false] <;> omega
      have jbQ:=eW.to (fun v _=>wR v)
      refine au 5 ?_
      exact next (⟨dJ,_,aM,cD,dK⟩,⟨nB,_,cx,ov,ow⟩,ol++[vv],FL,FM,(Ks.filter fun u=>decide (u≠vv))) WI ⟨(hm.pick [0,1,3] rfl),bq,c7,az.to (by simp only; rw [Lh]; rfl),jbQ,jbM,wV.to (fun v=>and_congr_right fun hv=>iff_of_eq (LM (fun q:Int=>q=0) (wR v))),by simp only [Lc,LG]; omega⟩ Tm
    ·
     simp only [dF] at Kz
     obtain rfl:=Ll.1 (by omega:rl.length=0)
     refine au 15 ?_
     exact ⟨dJ,_,aM,cD,dK,ol,md,es,ck,Ks,_,rfl,az,vz,fh,fun v hv=>Pl.OA fun h9=>by have:=(vS.mem v).2 ⟨hv,Ta⟩; simp at this,(hm.pick [1,2] rfl)⟩
  ·
   have hep:nS e∈es.map nS:=by rw [← zb]; exact Ln.2 ⟨e,he,rfl⟩
   obtain ⟨Hh,NF⟩:=hv.next hep bR
   have FJ:e.1∈(Pl.ea ss n):=(AV.keys _).1 (Ln.2 ⟨e,he,rfl⟩)
   have hvn:e.1∉P7.map (·.1):=HT vz.wf.keys hv hep bR
   have KA:(Pl.dP (Pl.ins E e.1)).length≤E.length:=by rw [(Pl.Q3 _).length_eq]; exact Pl.rD E e.1
   refine au 1 ?_
   refine rC rfl rfl rfl fS AO aN hm 0 rfl fun w hm=>au 10 ?_
   refine Ja rfl rfl (nv rfl (hm.nt 0 rfl) (hm.nt 1 rfl) he AV.wf)<|au 8 ?_
   refine cT rfl rfl rfl (jbC n m E _ _ (hZ.ext hm.to) Fu nk e.1) fun v w hR=>?_
   obtain ⟨bU,nm,aB,cQ,cL,rfl,ay,ae⟩:=hR
   replace hm:=hm.Jt ae
   obtain rfl:=ay.QB Jq Tb
   refine au 5 ?_
   refine Jg (ι:=Nat×cG Int) rfl (ks:=[0,4,5,6,8,39,46,47]) Tn (fun y=>[(48,.int .i64 (y.1:Int))]) (fun y w=>Mem w0 w No [(cQ,cL),(it,.obj (.mapIter (some md) ck ⟨P7.map (·.2.2)++[e.2.2]⟩ ck)),(md,fm iD y.2 ck)]∧y.2.map nS=es.map nS∧bV y.2 ck (Pl.ea ss n) (fun v=>if v=e.1 then ((((Pl.dP (Pl.ins E e.1)).take y.1).filter fun u=>decide (u∈(Pl.ea ss n))).length:Int) else if v∈P7.map (·.1) then (Pl.dg E (Pl.ea ss n) v:Int) else 0)∧y.1≤(Pl.dP (Pl.ins E e.1)).length) (fun y=>(Pl.dP (Pl.ins E e.1)).length-y.1) (0,IT) (⟨(hm.pick [0,1,2] rfl),zb,AV.to (fun v _=>if h:v=e.1 then (by subst h; simp only [LI rfl,LH hvn]; rfl) else (by simp only [LH h])),LL _⟩) Tm (fun y w hM=>?_)
   obtain ⟨k2,FM⟩:=y
   obtain ⟨hm,H7,eW,iB⟩:=hM
   simp only at hm H7 eW iB ⊢
   have xX:=List.length_filter_le (fun u=>decide (u∈(Pl.ea ss n))) ((Pl.dP (Pl.ins E e.1)).take k2)
   rw [Lg] at xX
   refine au 6 ?_
   refine cd (fun bg=>?_) fun bg=>?_
   ·
    simp only [dT] at bg
    obtain ⟨z,dY⟩:∃ y_,(Pl.dP (Pl.ins E e.1))[k2]?=some y_:=⟨_,La Ta⟩
    obtain ⟨qb,qo,rfl⟩:=(ay.rd hm 0 rfl).bS Jq Tb dY
    refine au 7 ?_
    refine Ja rfl rfl (J3 rfl sc3.h (ay.rd hm 0 rfl).nt Jq dY rfl)<|au 7 ?_
    refine Ja rfl rfl (kC (kk:=z) rfl rfl rfl mg110 (hm.nt 2 rfl))<|au 2 ?_
    refine Ja rfl rfl (cy (J7 rfl rfl) (LM Value.bool (eW.has z)))<|au 9 ?_
    refine cd (fun jG=>?_) fun jG=>?_
    ·
     simp only [dT] at jG
     have hdv:(cE FM e.1).getD (.int .i64 0)=.int .i64 ((((Pl.dP (Pl.ins E e.1)).take k2).filter fun u=>decide (u∈(Pl.ea ss n))).length:Nat):=by rw [eW.get FJ,LI rfl]
     refine au 3 ?_
     refine Ja rfl rfl (cy (Vz (kk:=e.1) rfl rfl rfl mg110 (hm.nt 2 rfl)) hdv)<|au 1 ?_
     refine ZI (kk:=e.1) rfl rfl rfl rfl rfl mg110 hm 2 rfl fun w hm=>?_
     rw [eW.cks FJ] at hm
     refine au 7 ?_
     have h9:=eW.set (f':=(fun v=>if v=e.1 then ((((Pl.dP (Pl.ins E e.1)).take (k2+1)).filter fun u=>decide (u∈(Pl.ea ss n))).length:Int) else if v∈P7.map (·.1) then (Pl.dg E (Pl.ea ss n) v:Int) else 0)) (x:=((((Pl.dP (Pl.ins E e.1)).take k2).filter fun u=>decide (u∈(Pl.ea ss n))).length:Int)+1) FJ (fun u _ h=>by simp only [LH h]) (by rw [LI rfl,QG dY,List.filter_append,Lc,List.filter_cons,LI (by simpa using jG)]; rfl)
     rw [eW.cks FJ] at h9
     exact next (k2+1,VS FM ck e.1 (.int .i64 _)) Td ⟨(hm.pick [0,1,2] rfl),by simp only; rw [eW.pr FJ]; exact H7,h9,Td⟩ ⟨nx k2,Tm⟩
    ·
     simp only [dF] at jG
     refine au 7 ?_
     exact next (k2+1,FM) Td ⟨(hm.pick [0,1,2] rfl),H7,eW.to (fun v _=>by have h9:(((Pl.dP (Pl.ins E e.1)).take (k2+1)).filter fun u=>decide (u∈(Pl.ea ss n))).length=(((Pl.dP (Pl.ins E e.1)).take k2).filter fun u=>decide (u∈(Pl.ea ss n))).length:=(by rw [QG dY,List.filter_append,List.filter_cons,LH (by simpa using jG)]; simp); simp only [h9]),Td⟩ ⟨nx k2,Tm⟩
   ·
    simp only [dF] at bg
    have EH:k2=(Pl.dP (Pl.ins E e.1)).length:=by omega
    rw [EH,Lv,Pl.Ox] at eW
    refine au 5 ?_
    exact next (FM,P7++[nS e]) (by simp only [Lc,LG]; omega) ⟨by simp only; rw [Lx]; exact (hm.pick [1,2] rfl),H7,Hh,eW.to (fun v _=>by simp only [Lx,List.map_singleton,Ls,Lf]; exact if h:v=e.1 then (by subst h; simp [nS]) else (by rw [LH h]; exact if h8:v∈P7.map (·.1) then (by rw [LI h8,LI (Or.inl h8)]) else (by rw [LH h8,LH (fun h7=>h7.elim h8 h)])))⟩ Tm
theorem H8{l:Tj}{k:Nat}{P:Int→Prop}(h1:l.Pairwise (·<·))(h2:∀ v,v∈l↔(0≤v∧v<(k:Int))∧P v)(hp:P k):(l++[(k:Int)]).Pairwise (·<·):=by
 rw [List.pairwise_append]
 refine ⟨h1,Tc,fun a ha b hb=>?_⟩
 rw [Lf.1 hb]
 exact ((h2 a).1 ha).1.2
theorem H9{l:Tj}{k:Nat}{P:Int→Prop}(h2:∀ v,v∈l↔(0≤v∧v<(k:Int))∧P v)(hp:P k)(v:Int):v∈l++[(k:Int)]↔(0≤v∧v<((k+1:Nat):Int))∧P v:=by
 rw [Ls,Lf,h2]
 constructor
 · rintro (⟨h,h3⟩ | rfl)
   · exact ⟨Ta,h3⟩
   · exact ⟨Ta,hp⟩
 · rintro ⟨h,h3⟩
   by_cases e:v=k
   · exact .inr e
   · exact .inl ⟨Ta,h3⟩
theorem EI{l:Tj}{k:Nat}{P:Int→Prop}(h2:∀ v,v∈l↔(0≤v∧v<(k:Int))∧P v)(hp:¬ P k)(v:Int):v∈l↔(0≤v∧v<((k+1:Nat):Int))∧P v:=by
 rw [h2]
 constructor
 · rintro ⟨h,h3⟩; exact ⟨Ta,h3⟩
 · rintro ⟨h,h3⟩
   by_cases e:v=k
   · exact absurd (e▸h3) hp
   · exact ⟨Ta,h3⟩
theorem H'(n m:Nat)(E:Tl)(Z:Tf)(w0:World)(hZ:Jr w0 Z)(hz:QP 239 3 n E m Z)(hE:E.length≤1000000)(sk:Tg)(AR:Nat)(ss:Tj)(hs:Rd w0 sk (ss.flatMap Cx.encI))(jn:ss.length≤1000000)(Ge:∀ K:Tj,(∀ v∈K,v∈(Pl.ea ss n))→(∀ v∈K,∃ u∈Pl.ins E v,u∈K)→K=[]):C Tryz.prog 98 [.pointer (some ⟨m,0,none⟩),.slice sk ss.length AR] w0 fun v w'=>∃ (p:Tg) (k c g:Nat) (b:ag) (out:Tj),v=.tuple ⟨[.slice p k c,.bool true]⟩∧Acc 3 1 p k c (out.flatMap Cx.encI) g b∧Pl.Kahn E (Pl.ea ss n) out []∧Mem w0 w' No [(g,b)]:=by
 have nk:=hE
 refine aH Tryz.func98 fun κ _ Je Jc hm=>?_
 refine au 10 ?_
 refine cT rfl rfl rfl (uT n m E Z _ (hZ.ext hm.to) hz nk sk AR ss (hs.Jj hm.to) jn) fun v w hR=>?_
 obtain ⟨dJ,KR,aM,cD,dK,out,md,es,ck,K,f,rfl,az,vz,fh,FC,ae⟩:=hR
 replace hm:=hm.Jt ae
 obtain rfl:=az.QB Jq Tb
 obtain rfl:=Ge K (fun v hv=>(fh.part v).2 (.inr hv)) FC
 obtain rfl:es=[]:=by cases es with | nil=>rfl | cons x r=>exact absurd ((vz.keys x.1).1 Tc) Tc
 refine au 11 ?_
 refine Ja rfl rfl (Oi rfl rfl un110 (hm.nt 1 rfl))<|Ja rfl rfl (JA (c:=false) (XE rfl rfl) (LN Tc))<|au 14 ?_
 exact ⟨dJ,_,aM,cD,dK,out,rfl,az,fh,(hm.pick [0] rfl)⟩
theorem EJ(n m:Nat)(E:Tl)(Z:Tf)(w0:World)(hZ:Jr w0 Z)(hz:QP 239 3 n E m Z)(hE:E.length≤1000000)(sk:Tg)(AR:Nat)(ss:Tj)(hs:Rd w0 sk (ss.flatMap Cx.encI))(jn:ss.length≤1000000):C Tryz.prog 199 [.pointer (some ⟨m,0,none⟩),.slice sk ss.length AR] w0 fun v w'=>∃ (p:Tg) (k c g:Nat) (b:ag) (l:Tj),v=.slice p k c∧Acc 3 1 p k c (l.flatMap Cx.encI) g b∧l.Pairwise (·<·)∧(∀ v,v∈l ↔  Pl.Path (Pl.wo E ss) v v)∧l.length≤n∧Mem w0 w' No [(g,b)]:=by
 have nk:=hE
 have hle:n≤1048576:=by obtain ⟨_,_,_,_,_,_,_,_,_,hg,_⟩:=hz; exact hg.le
 obtain ⟨lg,Mt⟩:∃ lg,w0.heap[m]?=some (ag.row 239 (.int .i64 (n:Int)::lg)).Jd:=by obtain ⟨_,_,_,_,_,_,_,_,_,_,rfl⟩:=hz; exact ⟨_,hZ.get (k:=0) rfl⟩
 have aq:∀ e∈E,0≤e.1∧e.1<n∧0≤e.2∧e.2<n:=by obtain ⟨_,_,_,_,_,_,_,_,_,hg,_⟩:=hz; exact fun e he=>by have:=hg.ok e he; omega
 refine aH Tryz.func199 fun κ _ Je Jc hm=>?_
 refine au 9 ?_
 refine cT rfl rfl rfl (uT n m E Z _ (hZ.ext hm.to) hz nk sk AR ss (hs.Jj hm.to) jn) fun v w hR=>?_
 obtain ⟨dJ,KR,aM,cD,dK,out,md,es,ck,K,f,rfl,az,vz,fh,FC,ae⟩:=hR
 replace hm:=hm.Jt ae
 obtain rfl:=az.QB Jq Tb
 refine au 11 ?_
 refine cT rfl rfl rfl (AQ n m E Z _ (hZ.ext hm.to) hz nk sk AR ss (hs.Jj hm.to) jn) fun v w hR=>?_
 obtain ⟨E1,mh,Zh,rfl,bZ,jbR,AO,ae⟩:=hR
 replace hm:=hm.XR ae
 have PR:∀ a b,Pl.Path E1 a b↔Pl.Path (Pl.wo E ss) a b:=fun a b=>⟨Pl.Path.sub fun e he=>Pl.Vp.2 ((AO e).1 he),Pl.Path.sub fun e he=>(AO e).2 (Pl.Vp.1 he)⟩
 refine au 6 ?_
 replace hm:=hm.JP
 have ay:=Acc.nil 3 1 none 0
 refine au 6 ?_
 refine cA rfl rfl rfl (yK n m _ _ (Qp hm.to Mt)) hm fun w hm=>au 4 ?_
 refine Jg (ι:=Nat×Ow×List Int) rfl (ks:=[4,6,7,22]) Tn (fun x=>[(23,.int .i64 (x.1:Int)),(8,.slice x.2.1.p x.2.1.n x.2.1.cap)]) (fun x w=>Mem w0 w No ((x.2.1.g,x.2.1.b)::(md,fm iD es ck)::Zh)∧Acc 3 1 x.2.1.p x.2.1.n x.2.1.cap (x.2.2.flatMap Cx.encI) x.2.1.g x.2.1.b∧x.2.2.Pairwise (·<·)∧(∀ v,v∈x.2.2↔(0≤v∧v<(x.1:Int))∧Pl.Path (Pl.wo E ss) v v)∧x.1≤n∧x.2.2.length≤x.1) (fun x=>n-x.1) (0,⟨none,0,0,0,.gap⟩,[]) (⟨(hm.Jp [0,2] 3 rfl),ay,Tc,fun v=>⟨fun h=>by simp at h,fun h=>absurd h.1 Ta⟩,LL _,LL _⟩) Tm (fun x w hM=>?_)
 obtain ⟨k,⟨bU,nm,aB,cQ,cL⟩,l⟩:=x
 obtain ⟨hm,ay,FG,mR,hk,r5⟩:=hM
 simp only at hm ay FG mR hk r5 ⊢
 obtain rfl:=ay.QB Jq Tb
 refine au 6 ?_
 refine cd (fun ai=>?_) fun ai=>?_
 ·
  simp only [dT] at ai
  refine au 14 ?_
  refine Ja rfl rfl (kC (kk:=(k:Int)) rfl rfl rfl mg110 (hm.nt 1 rfl))<|au 2 ?_
  refine Ja rfl rfl (cy (J7 rfl rfl) (LM Value.bool (vz.has k)))<|au 5 ?_
  by_cases hkK:(k:Int)∈K
  ·
   refine au 1 ?_
   refine Ja rfl rfl (JA (c:=true) (Jx rfl) (LQ hkK))<|au 3 ?_
   refine cT rfl rfl rfl (HZ n mh E1 Zh _ (Jr.right (A:=[_,_]) hm.Jz) bZ jbR k) fun v w hR=>?_
   obtain ⟨p_v,n_v,yg,g_v,Uz,xs,rfl,fI,rZ,xo,ae⟩:=hR
   replace hm:=hm.Jt ae
   obtain rfl:=fI.QB Jq Tb
   have hxl2:(Pl.dP xs).length≤1000000:=by rw [(Pl.Q3 _).length_eq]; exact rZ
   refine au 1 ?_
   refine cA rfl rfl rfl (jg p_v yg (Pl.dP xs) k _ (fI.rd hm 0 rfl) Ta) hm fun w hm=>au 3 ?_
   refine cd (fun ao=>?_) fun ao=>?_
   ·
    simp only [dT] at ao
    have jh:Pl.Path (Pl.wo E ss) k k:=(PR _ _).1 ((xo _).1 ((Pl.Q3 _).mem_iff.1 ao))
    refine au 3 ?_
    refine Jb (l:=[_]) rfl rfl sl134.h z3.h rfl rfl rfl rfl rfl rfl rfl hm trivial fun m1 w c5 hm hh=>Jy rfl rfl rfl rfl rfl rfl sl134.h sl134.h z3.h rfl rfl (Rd.JL (hm.get (k:=0) rfl)) rfl ay hm 2 rfl Ta Ta fun bU aB cQ cL w ay hm=>au 8 ?_
    exact next (k+1,⟨bU,_,aB,cQ,cL⟩,l++[(k:Int)]) Td ⟨(hm.Jp [2,3] 4 rfl),ay.to (by simp only; rw [Lh]; rfl),H8 FG mR jh,H9 mR jh,Td,by simp only [Lc,LG]; omega⟩ ⟨nx k,Tm⟩
   ·
    simp only [dF] at ao
    have jh:¬ Pl.Path (Pl.wo E ss) k k:=fun h=>ao ((Pl.Q3 _).mem_iff.2 ((xo _).2 ((PR _ _).2 h)))
    refine au 7 ?_
    exact next (k+1,⟨bU,_,aB,cQ,cL⟩,l) Td ⟨(hm.Jp [1,2] 3 rfl),ay,FG,EI mR jh,Td,Td⟩ ⟨nx k,Tm⟩
  ·
   have jh:¬ Pl.Path (Pl.wo E ss) k k:=fun h=>hkK (fh.FH aq h)
   refine au 1 ?_
   refine Ja rfl rfl (JA (c:=false) (Jx rfl) (LN hkK))<|au 17 ?_
   exact next (k+1,⟨bU,_,aB,cQ,cL⟩,l) Td ⟨(hm.Jp [0,1] 2 rfl),ay,FG,EI mR jh,Td,Td⟩ ⟨nx k,Tm⟩
 ·
  simp only [dF] at ai
  have b8:k=n:=by omega
  rw [b8] at mR
  refine au 13 ?_
  exact ⟨bU,_,aB,cQ,cL,l,rfl,ay,FG,fun v=>by rw [mR]; exact ⟨fun h=>h.2,fun h=>⟨by have:=Pl.Vh.1 ((fh.part v).2 (.inr (fh.FH aq h))); omega,h⟩⟩,Ta,(hm.pick [0] rfl)⟩
end Go.Proofs.YtaehgpeenaomcaaGreat
namespace Go.Pl
open Go Go.Cx Go.Proofs.YtaehgpeenaomcaaGreat
def wt(ws:Tj)(v:Int):Int:=if v<0∨(ws.length:Int)≤v then 0 else ws.getD v.toNat 0
def small(key:Int→Int):Tj→Int
 | []=>0
 | x::r=>r.foldl (fun b y=>if key y<key b then y else b) x
def Ia(E:Tl)(ss l:Tj):Prop:=l.Pairwise (·<·)∧∀ v,v∈l↔Pl.Path (Pl.wo E ss) v v
end Go.Pl
namespace Go.Proofs.YtaehgpeenaomcaaGreat
open Go Go.Cx
theorem Zv{key:Int→Int}{xs:Tj}{k:Nat}{y:Int}(h:xs[k]?=some y):Pl.small key (xs.take (k+1))=if k=0∨key y<key (Pl.small key (xs.take k)) then y else Pl.small key (xs.take k):=by
 cases xs with
 | nil=>simp at h
 | cons x r=>
  cases k with
  | zero => 
   simp only [L2,Option.some.injEq] at h
   subst h
   rfl
  | succ k=>
   simp only [LW] at h
   rw [List.take_succ_cons,List.take_succ_cons]
   unfold Pl.small
   simp only
   rw [LC,h,List.foldl_append]
   simp
theorem WJ(aK:Tg)(aj:Nat)(xs:Tj)(aI:Nat)(aF:ag)(fi:FuncId)(l2:Ti)(pred:Int→Bool)(w0:World)(ah:Acc 3 1 aK xs.length aj (xs.flatMap Cx.encI) aI aF)(DB:aF.real=true→w0.heap[aI]?=some aF.Jd)(hlen:xs.length≤4611686018427387903)(hg:JH Tryz.prog fi=true)(hf:∀ x w1,Ext (fun k=>k=aI∧aF.real=true) w0 w1→C Tryz.prog fi (.int .i64 x::l2) w1 fun v w2=>v=.bool (pred x)∧Ext No w1 w2):C Tryz.prog 200 [.slice aK xs.length aj,.func (.func fi) #[] ⟨l2⟩] w0 fun v w'=>∃ b',v=.slice aK (xs.filter fun x=>!pred x).length aj∧Acc 3 1 aK (xs.filter fun x=>!pred x).length aj ((xs.filter fun x=>!pred x).flatMap Cx.encI) aI b'∧Mem w0 w' (fun k=>k=aI∧aF.real=true) [(aI,b')]:=by
 refine Vk Tryz.func200 rfl rfl rfl fun κ _ Je Jc=>?_
 have hm:=Mem.wm DB
 refine au 9 ?_
 refine cA rfl rfl rfl (De aK aj xs fi l2 pred _ (ah.rd hm 0 rfl) Ta hg (fun x w1 hx hE=>hf x w1 (hm.to.trans hE.F1))) hm fun w hm=>au 10 ?_
 refine cd (fun ai=>?_) fun ai=>?_
 ·
  simp only [dT] at ai
  have cI:(xs.filter fun x=>!pred x)=xs:=by rcases X9 pred xs with ⟨_,h⟩ | ⟨i,x,h,_⟩; exact h; omega
  refine au 9 ?_
  exact ⟨aF,by rw [cI],by rw [cI]; exact ah,(hm.pick [0] rfl)⟩
 ·
  simp only [dF] at ai
  obtain ⟨i0,x0,nM,fN,jU,NK⟩:=(X9 pred xs).resolve_left (fun h=>ai h.1)
  have MA:=(Le.1 fN).1
  rw [nM]
  obtain rfl:=ah.ptr Ta
  have UI:=DelI.start fN jU NK
  refine au 11 ?_
  refine Jg (ι:=Nat×Nat×ag×List Int) rfl (ks:=[0,1,4]) Tn (fun x=>[(6,.int .i64 x.1),(5,.int .i64 x.2.1)]) (fun x w=>Mem w0 w (fun k=>k=aI∧aF.real=true) [(aI,x.2.2.1)]∧Acc 3 1 (some ⟨aI,0,none⟩) xs.length aj (x.2.2.2.flatMap Cx.encI) aI x.2.2.1∧DelI pred xs x.1 x.2.1 x.2.2.2) (fun x=>xs.length-x.1) (i0+1,i0,aF,xs) (⟨(hm.pick [0] rfl),ah,UI⟩) ⟨nx i0,Tm⟩ (fun x w hM=>?_)
  obtain ⟨hm,ah,hI⟩:=hM
  refine au 9 ?_
  refine cd (fun ao=>?_) fun ao=>?_
  ·
   simp only [dT] at ao
   have cV:=hI.len
   have aX:=hI.lt
   obtain ⟨e,hi⟩:∃ y_,x.2.2.2[x.1]?=some y_:=⟨_,La Ta⟩
   refine au 9 ?_
   refine Ja rfl rfl (J3 rfl sc3.h (ah.rd hm 0 rfl).nt Cx.Jq hi rfl)<|au 7 ?_
   refine Qf rfl rfl rfl rfl hg (hf e _ hm.to) fun v w hR=>?_
   obtain ⟨rfl,hE⟩:=hR
   refine ⟨trivial,?_⟩
   replace hm:=hm.ext hE
   refine au 3 ?_
   refine cd (fun aD=>?_) fun aD=>?_
   ·
    simp only [bE] at aD
    refine au 6 ?_
    refine gB rfl rfl rfl rfl sz3 rfl rfl ah Ta hm 0 rfl fun aF w ah hm=>?_
    replace ah:=ah.to (kj Cx.Jq Ta e)
    refine au 14 ?_
    refine next (x.1+1,x.2.1+1,aF,x.2.2.2.set x.2.1 e) Td ⟨(hm.pick [0] rfl),ah,hI.put hi aD⟩ ⟨nx x.1,nx x.2.1,Tm⟩
   ·
    simp only [bF] at aD
    refine au 8 ?_
    refine next (x.1+1,x.2.1,x.2.2.1,x.2.2.2) Td ⟨(hm.pick [0] rfl),ah,hI.skip hi aD⟩ ⟨nx x.1,Tm⟩
  ·
   simp only [dF] at ao
   obtain ⟨Ho,Ak,PY⟩:=hI.done Ta
   refine au 9 ?_
   refine Ja rfl rfl (JE (ln:=x.2.1) (hn:=xs.length) rfl sl134.h ⟨_,rfl⟩ rfl Ta (by have:=ah.le; omega) (fun _ ad e=>by cases e; rfl))<|mC rfl rfl sl134.h z3.h rfl Tb rfl Ta ah hm 0 rfl fun aF w ah hm=>au 6 ?_
   refine Ja rfl rfl (JE (ln:=0) (hn:=x.2.1) rfl sl134.h rfl ⟨_,rfl⟩ Ta (by have:=ah.le; omega) (fun _ ad e=>by cases e; rfl))<|au 5 ?_
   exact ⟨aF,by rw [Ak,XW (fun a e=>by cases e; rfl)]; rfl,by rw [Ak]; exact (ah.head PY).to ((Y1 _ _ _).trans ((kl Cx.Jq _ _).trans (by rw [Ho]))),(hm.pick [0] rfl)⟩
theorem EK(pw:Tg)(cw:Nat)(ws:Tj)(a:Int)(w0:World)(hw:Rd w0 pw (ws.flatMap Cx.encI))(vM:ws.length≤1000000):C Tryz.prog 204 [.slice pw ws.length cw,.int .i64 a] w0 fun v w'=>v=.int .i64 (Pl.wt ws a)∧Ext No w0 w':=by
 refine aH Tryz.func204 fun κ _ Je Jc hm=>?_
 refine au 13 ?_
 refine JK rfl rfl rfl (fun hc=>(gq (gx hc rfl) rfl sl134.h))<|au 4 ?_
 refine cd (fun ai=>?_) fun ai=>?_
 ·
  simp only [bB,dT] at ai
  refine au 8 ?_
  exact ⟨by unfold Pl.wt; rw [LI Ta],hm.to⟩
 ·
  simp only [bD,dF] at ai
  obtain ⟨i,rfl⟩:∃ i:Nat,a=(i:Int):=⟨a.toNat,Ta⟩
  obtain ⟨y,hi⟩:∃ y_,ws[i]?=some y_:=⟨_,La Ta⟩
  obtain ⟨qb,qo,rfl⟩:=hw.bS Jq Tb hi
  refine au 7 ?_
  refine Ja rfl rfl (J3 rfl sc3.h (hw.Jj hm.to).nt Jq hi rfl)<|au 5 ?_
  exact ⟨by unfold Pl.wt; rw [LH Ta,LD,List.getD_eq_getElem?_getD,hi]; rfl,hm.to⟩
theorem Ib(a:Int)(m1:Nat)(pk:Tg)(ck:Nat)(ks:Tj)(w0:World)(h1:w0.heap[m1]?=some (ag.row 134 [.slice pk ks.length ck]).Jd)(hk:Rd w0 pk (ks.flatMap Cx.encI))(tY:ks.length≤1000000):C Tryz.prog 201 [.int .i64 a,.pointer (some ⟨m1,0,none⟩)] w0 fun v w'=>v=.bool (decide (a∈ks))∧Ext No w0 w':=by
 refine aH Tryz.func201 fun κ _ Je Jc hm=>?_
 refine au 9 ?_
 refine cA rfl rfl rfl (jg pk ck ks a _ (hk.Jj hm.to) Ta) hm fun w hm=>au 5 ?_
 exact ⟨rfl,hm.to⟩
theorem Ic(a:Int)(m1:Nat)(pw:Tg)(cw:Nat)(ws:Tj)(w0:World)(h1:w0.heap[m1]?=some (ag.row 134 [.slice pw ws.length cw]).Jd)(hw:Rd w0 pw (ws.flatMap Cx.encI))(vM:ws.length≤1000000):C Tryz.prog 203 [.int .i64 a,.pointer (some ⟨m1,0,none⟩)] w0 fun v w'=>v=.int .i64 (Pl.wt ws a)∧Ext No w0 w':=by
 refine aH Tryz.func203 fun κ _ Je Jc hm=>?_
 refine au 9 ?_
 refine cA rfl rfl rfl (EK pw cw ws a _ (hw.Jj hm.to) vM) hm fun w hm=>au 5 ?_
 exact ⟨rfl,hm.to⟩
theorem Ie(p:Tg)(cap:Nat)(xs:Tj)(fi:FuncId)(lb:Ti)(key:Int→Int)(w0:World)(hx:Rd w0 p (xs.flatMap Cx.encI))(hl:xs.length≤2000000)(hg:JH Tryz.prog fi=true)(hf:∀ x w1,Ext No w0 w1→C Tryz.prog fi (.int .i64 x::lb) w1 fun v w2=>v=.int .i64 (key x)∧Ext No w1 w2):C Tryz.prog 202 [.slice p xs.length cap,.func (.func fi) #[] ⟨lb⟩] w0 fun v w'=>v=.tuple ⟨[.int .i64 (Pl.small key xs),.bool (decide (0<xs.length))]⟩∧Ext No w0 w':=by
 refine aH Tryz.func202 fun κ _ Je Jc hm=>?_
 refine au 20 ?_
 refine Jg (ι:=Nat×Int) rfl (ks:=[0,1,4,5,9,10]) Tn (fun x=>[(11,.int .i64 (x.1:Int)),(6,.int .i64 x.2)]) (fun x w=>Mem w0 w No []∧x.2=Pl.small key (xs.take x.1)∧x.1≤xs.length) (fun x=>xs.length-x.1) (0,0) (⟨hm,rfl,LL _⟩) Tm (fun x w hM=>?_)
 obtain ⟨k,bst⟩:=x
 obtain ⟨hm,hb,hk⟩:=hM
 simp only at hm hb hk ⊢
 refine au 6 ?_
 refine cd (fun ai=>?_) fun ai=>?_
 ·
  simp only [dT] at ai
  obtain ⟨y,hi⟩:∃ y_,xs[k]?=some y_:=⟨_,La Ta⟩
  obtain ⟨qb,qo,rfl⟩:=hx.bS Jq Tb hi
  refine au 8 ?_
  refine Ja rfl rfl (J3 rfl sc3.h (hx.Jj hm.to).nt Jq hi rfl)<|au 5 ?_
  rcases Nat.eq_zero_or_pos k with FD | FD
  ·
   have WK:k=0∨key y<key (Pl.small key (xs.take k)):=.inl FD
   refine au 2 ?_
   refine Ja rfl rfl (JA (c:=true) (V3 rfl rfl) (LQ Ta))<|au 22 ?_
   exact next (k+1,y) Td ⟨(hm.pick [] rfl),by simp only; rw [Zv hi,LI WK],Td⟩ ⟨nx k,Tm⟩
  ·
   refine au 2 ?_
   refine Ja rfl rfl (JA (c:=false) (V3 rfl rfl) (LN Ta))<|au 3 ?_
   refine Qf rfl rfl rfl rfl hg (hf y _ hm.to) fun v w hR=>?_
   obtain ⟨rfl,hE⟩:=hR
   refine ⟨trivial,?_⟩
   replace hm:=hm.ext hE
   refine au 2 ?_
   refine Qf rfl rfl rfl rfl hg (hf bst _ hm.to) fun v w hR=>?_
   obtain ⟨rfl,hE⟩:=hR
   refine ⟨trivial,?_⟩
   replace hm:=hm.ext hE
   refine au 4 ?_
   refine cd (fun ao=>?_) fun ao=>?_
   ·
    simp only [dT] at ao
    have WK:k=0∨key y<key (Pl.small key (xs.take k)):=.inr (by rw [← hb]; exact ao)
    refine au 10 ?_
    exact next (k+1,y) Td ⟨(hm.pick [] rfl),by simp only; rw [Zv hi,LI WK],Td⟩ ⟨nx k,Tm⟩
   ·
    simp only [dF] at ao
    have WK:¬ (k=0∨key y<key (Pl.small key (xs.take k))):=by rw [← hb]; omega
    refine au 7 ?_
    exact next (k+1,bst) Td ⟨(hm.pick [] rfl),by simp only; rw [Zv hi,LH WK,hb],Td⟩ ⟨nx k,Tm⟩
 ·
  simp only [dF] at ai
  have b8:k=xs.length:=by omega
  rw [b8,Lv] at hb
  refine au 10 ?_
  refine Ja rfl rfl (cy (XE rfl rfl) (LM Value.bool (by rw [Bool.eq_iff_iff]; simp only [dT]; omega:decide ((xs.length:Int)>0)=decide (0<xs.length))))<|au 6 ?_
  exact ⟨by rw [hb],hm.to⟩
theorem OW(n m:Nat)(E:Tl)(Z:Tf)(w0:World)(hZ:Jr w0 Z)(hz:QP 239 3 n E m Z)(hE:E.length≤1000000)(pr:Tg)(cr:Nat)(ss:Tj)(hs:Rd w0 pr (ss.flatMap Cx.encI))(jn:ss.length≤1000000)(pw:Tg)(cw:Nat)(ws:Tj)(hw:Rd w0 pw (ws.flatMap Cx.encI))(vM:ws.length≤1000000)(pk:Tg)(ck:Nat)(ks:Tj)(hk:Rd w0 pk (ks.flatMap Cx.encI))(tY:ks.length≤1000000):C Tryz.prog 159 [.pointer (some ⟨m,0,none⟩),.slice pw ws.length cw,.slice pr ss.length cr,.slice pk ks.length ck] w0 fun v w'=>∃ l:Tj,Pl.Ia E ss l∧l.length≤n∧v=.tuple ⟨[.int .i64 (Pl.small (Pl.wt ws) (l.filter fun x=>!decide (x∈ks))),.bool (decide (0<(l.filter fun x=>!decide (x∈ks)).length)),.bool (decide (0<l.length))]⟩∧Ext No w0 w':=by
 have nk:=hE
 have hle:n≤1048576:=by obtain ⟨_,_,_,_,_,_,_,_,_,hg,_⟩:=hz; exact hg.le
 refine aH Tryz.func159 fun κ _ Je Jc hm=>?_
 refine au 2 ?_
 refine bT hm fun m5 w hm=>?_
 refine bT hm fun m7 w hm=>?_
 refine au 9 ?_
 refine cT rfl rfl rfl (EJ n m E Z _ (hZ.ext hm.to) hz nk pr cr ss (hs.Jj hm.to) jn) fun v w hR=>?_
 obtain ⟨PU,n_l,pI,g_l,PV,l,rfl,nf,FG,mR,hl3,ae⟩:=hR
 replace hm:=hm.Jt ae
 obtain rfl:=nf.QB Jq Tb
 refine au 7 ?_
 refine Ja rfl rfl (cy (XE rfl rfl) (LM Value.bool (by rw [Bool.eq_iff_iff]; simp only [dT]; omega:decide ((l.length:Int)>0)=decide (0<l.length))))<|au 7 ?_
 refine cT rfl rfl rfl (WJ PU pI l g_l PV 201 [.pointer (some ⟨m7,0,none⟩)] (fun x=>decide (x∈ks)) _ nf (fun h9=>hm.nV (k:=0) rfl h9) Ta go201 (fun x w9 Hi=>Ib x m7 pk ck ks w9 ((Hi.same m7 (Lb.1 (hm.get (k:=1) rfl)).1 (hm.neB 1 0 rfl rfl rfl)).trans (hm.get (k:=1) rfl)) ((hk.Jj hm.to).Yu Hi (fun bO ad hp ⟨e9,PW⟩=>hm.mF hk (fun _ _ _ h=>h) bO ad hp (JD.2 ⟨PV,e9▸by simp,PW⟩))) tY)) fun v w hR=>?_
 obtain ⟨PV,rfl,nf,ae⟩:=hR
 replace hm:=hm.Cz 0 rfl ae
 have bY:=List.length_filter_le (fun x=>!decide (x∈ks)) l
 refine au 7 ?_
 refine cA rfl rfl rfl (Ie PU pI (l.filter fun x=>!decide (x∈ks)) 203 [.pointer (some ⟨m5,0,none⟩)] (Pl.wt ws) _ (nf.rd hm 0 rfl) Ta go203 (fun x w9 Hi=>Ic x m5 pw cw ws w9 (Qp Hi (hm.get (k:=2) rfl)) (hw.Jj (hm.to.trans Hi)) vM)) hm fun w hm=>au 18 ?_
 refine dD (fin Je rfl (.tmp rfl (.tmp rfl (.tmp rfl .nil))) .more ?_)
 exact ⟨l,⟨FG,mR⟩,hl3,rfl,hm.to⟩
end Go.Proofs.YtaehgpeenaomcaaGreat
namespace Go.Pl
open Go Go.Cx Go.Proofs.YtaehgpeenaomcaaGreat
inductive Evs(E:Tl)(ws ks:Tj):Tj→Prop
 | nil:Pl.Evs E ws ks []
 | step {ss l:Tj}:Pl.Evs E ws ks ss→Pl.Ia E ss l→0<(l.filter fun x=>!decide (x∈ks)).length→Pl.Evs E ws ks (ss++[Pl.small (Pl.wt ws) (l.filter fun x=>!decide (x∈ks))])
end Go.Pl
namespace Go.Proofs.YtaehgpeenaomcaaGreat
open Go Go.Cx
structure OX(E:Tl)(n:Nat)(ws ks:Tj)(ok FH:Bool)(out:Tj):Prop where
 ev:Pl.Evs E ws ks out
 nd:out.Nodup
 rg:∀ v∈out,0≤v∧v<n
 fin:ok=false→(∀ v,¬ Pl.Path (Pl.wo E out) v v)∧FH=false
theorem pU{key:Int→Int}:∀ {xs:Tj},0<xs.length→Pl.small key xs∈xs
 | [],h=>absurd h (Nat.lt_irrefl _)
 | x::r,_=>by
  have:∀ (r:Tj) (b:Int),r.foldl (fun b y=>if key y<key b then y else b) b=b∨r.foldl (fun b y=>if key y<key b then y else b) b∈r:=by
   intro r
   induction r with
   | nil=>intro b; exact .inl rfl
   | cons y r ih=>
    intro b
    rw [List.foldl_cons]
    rcases ih (if key y<key b then y else b) with h | h
    · rw [h]
      split
      · exact .inr (Lo ..)
      · exact .inl rfl
    · exact .inr (LX _ h)
  show r.foldl _ x∈x::r
  rcases this r x with h | h
  · rw [h]; exact Lo ..
  · exact LX _ h
theorem If{n:Nat}{p:Prop}[Decidable p]{out:Tj}{v:Int}(h:(if p then out++[v] else out).length≤n):2*(n-(if p then out++[v] else out).length)+(if decide p=true then 1 else 0)<2*(n-out.length)+1:=by
 by_cases hp:p
 · simp only [hp,if_true,decide_true,Lc,LG] at *
   omega
 · simp only [hp,if_false,decide_false,L0] at *
   omega
theorem OX.le{E:Tl}{n:Nat}{ws ks out:Tj}{ok FH:Bool}(h:OX E n ws ks ok FH out):out.length≤n:=by
 have:=Pl.VE (m:=Pl.ids n) h.nd fun v hv=>Pl.XK.2 (h.rg v hv)
 rwa [Pl.Qj] at this
theorem OX.step{E:Tl}{n:Nat}{ws ks out l:Tj}{ok FH:Bool}(h:OX E n ws ks ok FH out)(hE:∀ e∈E,0≤e.1∧e.1<n∧0≤e.2∧e.2<n)(hl:Pl.Ia E out l)(vp:∀ ss v,Pl.Path (Pl.wo E ss) v v→v∉ks) :
 OX E n ws ks (decide (0<(l.filter fun x=>!decide (x∈ks)).length)) (decide (0<l.length)) (if 0<(l.filter fun x=>!decide (x∈ks)).length then out++[Pl.small (Pl.wt ws) (l.filter fun x=>!decide (x∈ks))] else out):=by
 have bY:(l.filter fun x=>!decide (x∈ks))=l:=List.filter_eq_self.2 fun v hv=>by have:=vp out v ((hl.2 v).1 hv); simp [this]
 by_cases hp:0<(l.filter fun x=>!decide (x∈ks)).length
 · rw [LI hp]
   have hm:=pU (key:=Pl.wt ws) hp
   have wW:=Pl.Evs.step h.ev hl hp
   generalize Pl.small (Pl.wt ws) (l.filter fun x=>!decide (x∈ks))=v at hm wW
   rw [bY] at hm
   have hpv:=(hl.2 v).1 hm
   obtain ⟨u,hu⟩:∃ u,(u,v)∈Pl.wo E out:=by cases hpv with | one he=>exact ⟨_,he⟩ | more _ he=>exact ⟨_,he⟩
   obtain ⟨h1,_,h3⟩:=Pl.Vp.1 hu
   have hb:=hE _ h1
   refine ⟨wW,?_,fun w hw=>?_,fun hf=>absurd hp (by simpa using hf)⟩
   · rw [Kg]
     refine ⟨h.nd,Tc,fun a ha b PW e=>?_⟩
     rw [Lf.1 PW] at e
     exact h3 (e▸ha)
   · rcases Ls.1 hw with hw | hw
     · exact h.rg w hw
     · rw [Lf.1 hw]; exact ⟨hb.2.2.1,hb.2.2.2⟩
 · rw [LH hp]
   rw [bY] at hp
   have MA:=Ll.1 (by omega:l.length=0)
   refine ⟨h.ev,h.nd,h.rg,fun _=>⟨fun v hv=>?_,by simpa using MA⟩⟩
   have:=(hl.2 v).2 hv
   rw [MA] at this
   simp at this
theorem KU(n m:Nat)(E:Tl)(Z:Tf)(w0:World)(hZ:Jr w0 Z)(hz:QP 239 3 n E m Z)(hE:E.length≤1000000)(pw:Tg)(cw:Nat)(ws:Tj)(hw:Rd w0 pw (ws.flatMap Cx.encI))(vM:ws.length≤1000000)(pk:Tg)(ck:Nat)(ks:Tj)(hk:Rd w0 pk (ks.flatMap Cx.encI))(tY:ks.length≤1000000)(m3 m4 m8 m5 g:Nat)(b:ag)(p:Tg)(c:Nat)(ss:Tj)(az:Acc 3 1 p ss.length c (ss.flatMap Cx.encI) g b)(hO:Jr w0 [(m3,.row 131 [.pointer (some ⟨m,0,none⟩)]),(m4,.row 134 [.slice pw ws.length cw]),(m8,.row 134 [.slice p ss.length c]),(m5,.row 134 [.slice pk ks.length ck]),(g,b)])(jn:ss.length≤1000000):C Tryz.prog 158 [.pointer (some ⟨m3,0,none⟩),.pointer (some ⟨m4,0,none⟩),.pointer (some ⟨m8,0,none⟩),.pointer (some ⟨m5,0,none⟩)] w0 fun v w'=>∃ (l:Tj) (p':Tg) (c' g':Nat) (b':ag),Pl.Ia E ss l∧v=.tuple ⟨[.bool (decide (0<(l.filter fun x=>!decide (x∈ks)).length)),.bool (decide (0<l.length))]⟩∧Acc 3 1 p' (if 0<(l.filter fun x=>!decide (x∈ks)).length then ss++[Pl.small (Pl.wt ws) (l.filter fun x=>!decide (x∈ks))] else ss).length c' ((if 0<(l.filter fun x=>!decide (x∈ks)).length then ss++[Pl.small (Pl.wt ws) (l.filter fun x=>!decide (x∈ks))] else ss).flatMap Cx.encI) g' b'∧Mem w0 w' (Mn (ak [(m3,.row 131 [.pointer (some ⟨m,0,none⟩)]),(m4,.row 134 [.slice pw ws.length cw]),(m8,.row 134 [.slice p ss.length c]),(m5,.row 134 [.slice pk ks.length ck]),(g,b)])) [(m3,.row 131 [.pointer (some ⟨m,0,none⟩)]),(m4,.row 134 [.slice pw ws.length cw]),(m8,.row 134 [.slice p' (if 0<(l.filter fun x=>!decide (x∈ks)).length then ss++[Pl.small (Pl.wt ws) (l.filter fun x=>!decide (x∈ks))] else ss).length c']),(m5,.row 134 [.slice pk ks.length ck]),(g',b')]:=by
 refine Vk Tryz.func158 rfl rfl rfl fun κ _ Je Jc=>?_
 have hm:=hO.start
 refine au 12 ?_
 refine cT rfl rfl rfl (OW n m E Z _ hZ hz hE p c ss (az.rd hm 4 rfl) jn pw cw ws hw vM pk ck ks hk tY) fun v w hR=>?_
 obtain ⟨l,P9,r5,rfl,Hi⟩:=hR
 replace hm:=hm.ext Hi
 refine au 15 ?_
 refine cd (fun ai=>?_) fun ai=>?_
 ·
  simp only [dT] at ai
  refine au 3 ?_
  refine Jb (l:=[_]) rfl rfl sl134.h z3.h rfl rfl rfl rfl rfl rfl rfl hm trivial fun m1 w c5 hm hh=>Jy rfl rfl rfl rfl rfl rfl sl134.h sl134.h z3.h rfl rfl (Rd.JL (hm.get (k:=0) rfl)) rfl az hm 5 rfl Ta Ta fun dJ aM cD dK w az hm=>st hm 3 fun w hm=>?_
  refine au 12 ?_
  refine ⟨l,dJ,aM,cD,dK,P9,rfl,?_,?_⟩
  · rw [LI ai,Lc]; exact az.to (by rw [Lh]; rfl)
  · rw [LI ai,Lc]; exact (hm.pick [1,2,3,4,5] rfl)
 ·
  simp only [dF] at ai
  refine au 12 ?_
  exact ⟨l,p,c,g,b,P9,rfl,by rw [LH ai]; exact az,by rw [LH ai]; exact hm⟩
theorem EL(n m:Nat)(E:Tl)(Z:Tf)(w0:World)(hZ:Jr w0 Z)(hz:QP 239 3 n E m Z)(hE:E.length≤1000000)(pw:Tg)(cw:Nat)(ws:Tj)(hw:Rd w0 pw (ws.flatMap Cx.encI))(vM:ws.length≤1000000)(pk:Tg)(ck:Nat)(ks:Tj)(hk:Rd w0 pk (ks.flatMap Cx.encI))(tY:ks.length≤1000000)(vp:∀ ss v,Pl.Path (Pl.wo E ss) v v→v∉ks)(hn:n≤1000000):C Tryz.prog 127 [.pointer (some ⟨m,0,none⟩),.slice pw ws.length cw,.slice pk ks.length ck] w0 fun v w'=>∃ (p:Tg) (k c g:Nat) (b:ag) (out:Tj),v=.tuple ⟨[.slice p k c,.bool true]⟩∧Acc 3 1 p k c (out.flatMap Cx.encI) g b∧Pl.Evs E ws ks out∧(∀ v,¬ Pl.Path (Pl.wo E out) v v)∧out.Nodup∧(∀ v∈out,0≤v∧v<n)∧Mem w0 w' No [(g,b)]:=by
 have nk:=hE
 have hle:n≤1048576:=by obtain ⟨_,_,_,_,_,_,_,_,_,hg,_⟩:=hz; exact hg.le
 have EM:∀ e∈E,0≤e.1∧e.1<n∧0≤e.2∧e.2<n:=by obtain ⟨_,_,_,_,_,_,_,_,_,hg,_⟩:=hz; exact fun e he=>by have:=hg.ok e he; omega
 refine aH Tryz.func127 fun κ _ Je Jc hm=>?_
 refine au 2 ?_
 refine bT hm fun m3 w hm=>?_
 refine bT hm fun m4 w hm=>?_
 refine bT hm fun m5 w hm=>?_
 refine au 6 ?_
 refine aT hm fun m8 w hm=>?_
 replace hm:=hm.JP
 have az:=Acc.nil 3 1 none 0
 replace hm:=(hm.pick [4,3,1,2,0] rfl)
 have FN:OX E n ws ks true true []:=⟨.nil,Tc,Tc,Tc⟩
 refine au 11 ?_
 refine Qf rfl rfl rfl rfl go158 (KU n m E Z _ (hZ.ext hm.to) hz nk pw cw ws (hw.Jj hm.to) vM pk ck ks (hk.Jj hm.to) tY m3 m4 m8 m5 0 .gap none 0 [] az hm.Jz (Ki FN.le hn)) fun v w hR=>?_
 obtain ⟨l,dJ,aM,cD,dK,P9,rfl,az,ae⟩:=hR
 refine ⟨trivial,?_⟩
 replace hm:=Mem.JQ (A:=[]) hm ae
 have EN:=FN.step EM P9 vp
 have KV:=EN.le
 refine au 9 ?_
 refine Jg (ι:=Bool×Bool×Ow×List Int) rfl (ks:=[6,7,8,9]) Tn (fun x=>[(10,.bool x.1),(11,.bool x.2.1)]) (fun x w=>Mem w0 w No [(m3,.row 131 [.pointer (some ⟨m,0,none⟩)]),(m4,.row 134 [.slice pw ws.length cw]),(m8,.row 134 [.slice x.2.2.1.p x.2.2.2.length x.2.2.1.cap]),(m5,.row 134 [.slice pk ks.length ck]),(x.2.2.1.g,x.2.2.1.b)]∧Acc 3 1 x.2.2.1.p x.2.2.2.length x.2.2.1.cap (x.2.2.2.flatMap Cx.encI) x.2.2.1.g x.2.2.1.b∧OX E n ws ks x.1 x.2.1 x.2.2.2) (fun x=>2*(n-x.2.2.2.length)+(if x.1=true then 1 else 0)) (_,_,⟨dJ,0,aM,cD,dK⟩,_) (⟨hm,az,EN⟩) Tm (fun x w hM=>?_)
 obtain ⟨ok,FH,⟨dJ,KR,aM,cD,dK⟩,out⟩:=x
 obtain ⟨hm,az,FN⟩:=hM
 simp only at hm az FN ⊢
 refine au 6 ?_
 refine cd (fun ai=>?_) fun ai=>?_
 ·
  refine au 5 ?_
  refine Qf rfl rfl rfl rfl go158 (KU n m E Z _ (hZ.ext hm.to) hz nk pw cw ws (hw.Jj hm.to) vM pk ck ks (hk.Jj hm.to) tY m3 m4 m8 m5 cD dK dJ aM out az hm.Jz (Ki FN.le hn)) fun v w hR=>?_
  obtain ⟨l,dJ,aM,cD,dK,P9,rfl,az,ae⟩:=hR
  refine ⟨trivial,?_⟩
  replace hm:=Mem.JQ (A:=[]) hm ae
  have EN:=FN.step EM P9 vp
  have KV:=EN.le
  refine au 7 ?_
  exact next (decide (0<(l.filter fun x=>!decide (x∈ks)).length),decide (0<l.length),⟨dJ,0,aM,cD,dK⟩,(if 0<(l.filter fun x=>!decide (x∈ks)).length then out++[Pl.small (Pl.wt ws) (l.filter fun x=>!decide (x∈ks))] else out)) (by simp only; rw [ai,LI rfl]; exact If KV) ⟨hm,az,EN⟩ Tm
 ·
  obtain ⟨hf1,rfl⟩:=FN.fin ai
  refine au 8 ?_
  refine Ja rfl rfl (JA (c:=false) (Jx rfl) rfl)<|au 14 ?_
  exact ⟨_,_,_,_,_,out,rfl,az,FN.ev,hf1,FN.nd,FN.rg,(hm.pick [4] rfl)⟩
end Go.Proofs.YtaehgpeenaomcaaGreat
namespace Go.Pl
open Go Go.Cx Go.Proofs.YtaehgpeenaomcaaGreat
def Xa(cs:List aa)(k:Nat):List Int:=(Pl.ids k).filter fun i=>decide ((cs[i.toNat]?).map aa.k=some 2)
end Go.Pl
namespace Go.Proofs.YtaehgpeenaomcaaGreat
open Go Go.Cx
theorem pV{cs:List aa}{k:Nat}{c:aa}(h:cs[k]?=some c):Pl.Xa cs (k+1)=Pl.Xa cs k++if c.k=2 then [(k:Int)] else []:=by
 unfold Pl.Xa
 rw [Pl.tH,List.filter_append]
 congr 1
 by_cases hc:c.k=2
 · rw [LI hc,List.filter_cons,LI (by simp [h,hc])]; rfl
 · rw [LH hc,List.filter_cons,LH (by simp [h,hc])]; rfl
theorem rH(cs:List aa)(k:Nat):(Pl.Xa cs k).length≤k:=by
 have:=List.length_filter_le (fun i:Int=>decide ((cs[i.toNat]?).map aa.k=some 2)) (Pl.ids k)
 rwa [Pl.Qj] at this
theorem im{cs:List aa}{k:Nat}{v:Int}:v∈Pl.Xa cs k↔0≤v∧v<k∧(cs[v.toNat]?).map aa.k=some 2:=by
 unfold Pl.Xa
 rw [L5,Pl.XK,LO,and_assoc]
theorem Ig{cs:List aa}{E:Tl}(hE:∀ e,e∈E↔Pl.AS cs cs.length e)(ss:Tj)(v:Int)(h:Pl.Path (Pl.wo E ss) v v):v∉Pl.Xa cs cs.length:=fun hv=>by
 have:∀ {a b:Int},Pl.Path (Pl.wo E ss) a b→∃ u,(a,u)∈Pl.wo E ss:=by
  intro a b hp
  induction hp with
  | one he=>exact ⟨_,he⟩
  | more _ _ ih=>exact ih
 obtain ⟨u,hu⟩:=this h
 obtain ⟨i,j,a,b,he,h1,h2,h3,h4,h5⟩:=(hE _).1 (Pl.Vp.1 hu).1
 simp only [Prod.mk.injEq] at he
 have h6:=(im.1 hv).2.2
 rw [he.1,LD,h3] at h6
 simp only [Option.map_some,Option.some.injEq] at h6
 unfold Pl.cf at h5
 simp [h6] at h5
theorem OY{cs:List aa}{E:Tl}{out K:Tj}(hE:∀ e∈E,0≤e.1∧e.1<(cs.length:Int)∧0≤e.2∧e.2<(cs.length:Int))(hc:∀ v,¬ Pl.Path (Pl.wo E out) v v)(h1:∀ v∈K,v∈Pl.ea (Pl.Xa cs cs.length++out) cs.length)(h2:∀ v∈K,∃ u∈Pl.ins E v,u∈K):K=[]:=
 Pl.OC hc fun v hv=>by
  obtain ⟨u,hu,hk⟩:=h2 v hv
  have h3:=(Pl.Vh.1 (h1 v hv)).2.2
  have h4:=(Pl.Vh.1 (h1 u hk)).2.2
  simp only [Ls,not_or] at h3 h4
  exact ⟨u,hk,Pl.Vp.2 ⟨Pl.Zc.1 hu,h4.2,h3.2⟩⟩
theorem EO(q:Tg)(cq mh:Nat)(cs:List aa)(w0:World)(hq:Rd w0 q (cs.flatMap JM))(hl:cs.length≤100):C Tryz.prog 99 [.agg ⟨[.slice q cs.length cq,.pointer (some ⟨mh,0,none⟩)]⟩] w0 fun v w'=>∃ p c g b,v=.slice p (Pl.Xa cs cs.length).length c∧Acc 3 1 p (Pl.Xa cs cs.length).length c ((Pl.Xa cs cs.length).flatMap Cx.encI) g b∧Mem w0 w' No [(g,b)]:=by
 refine aH Tryz.func99 fun κ _ Je Jc hm=>?_
 refine au 2 ?_
 refine bT hm fun mr w hm=>?_
 refine au 6 ?_
 replace hm:=hm.JP
 have az:=Acc.nil 3 1 none 0
 refine au 12 ?_
 refine Jg (ι:=Nat×Ow) rfl (ks:=[2,7,8]) Tn (fun x=>[(9,.int .i64 (x.1:Int)),(3,.slice x.2.p x.2.n x.2.cap)]) (fun x w=>Mem w0 w No [(x.2.g,x.2.b),(mr,.row 133 [.slice q cs.length cq,.pointer (some ⟨mh,0,none⟩)])]∧Acc 3 1 x.2.p x.2.n x.2.cap ((Pl.Xa cs x.1).flatMap Cx.encI) x.2.g x.2.b∧x.1≤cs.length) (fun x=>cs.length-x.1) (0,⟨none,0,0,0,.gap⟩) (⟨(hm.pick [0,1] rfl),az,LL _⟩) Tm (fun x w hM=>?_)
 obtain ⟨k,dJ,KR,aM,cD,dK⟩:=x
 obtain ⟨hm,az,hk⟩:=hM
 simp only at hm az hk ⊢
 obtain rfl:=az.QB Jq Tb
 have r5:=rH cs k
 refine au 6 ?_
 refine cd (fun ai=>?_) fun ai=>?_
 ·
  simp only [dT] at ai
  obtain ⟨c,hi⟩:∃ y_,cs[k]?=some y_:=⟨_,La Ta⟩
  obtain ⟨qb,qo,rfl⟩:=hq.bS Jf Tb hi
  refine au 8 ?_
  refine Ja rfl rfl (JU rfl ag60.h (hq.Jj hm.to).nt Jf hi)<|aT hm fun mc w hm=>?_
  refine au 1 ?_
  refine st hm 0 fun w hm=>?_
  refine au 9 ?_
  refine cd (fun ao=>?_) fun ao=>?_
  ·
   simp only [dT] at ao
   refine au 3 ?_
   refine Jb (l:=[_]) rfl rfl sl134.h z3.h rfl rfl rfl rfl rfl rfl rfl hm trivial fun m1 w c5 hm hh=>Jy rfl rfl rfl rfl rfl rfl sl134.h sl134.h z3.h rfl rfl (Rd.JL (hm.get (k:=0) rfl)) rfl az hm 2 rfl Ta Ta fun dJ aM cD dK w az hm=>au 8 ?_
   exact next (k+1,⟨dJ,_,aM,cD,dK⟩) Td ⟨(hm.pick [2,3] rfl),az.to (by simp only; rw [pV hi,LI ao,Lh]; rfl),Td⟩ ⟨nx k,Tm⟩
  ·
   simp only [dF] at ao
   refine au 7 ?_
   exact next (k+1,⟨dJ,_,aM,cD,dK⟩) Td ⟨(hm.pick [1,2] rfl),az.to (by simp only; rw [pV hi,LH ao,Lq]),Td⟩ ⟨nx k,Tm⟩
 ·
  simp only [dF] at ai
  have b8:k=cs.length:=by omega
  rw [b8] at az ⊢
  refine au 13 ?_
  exact ⟨dJ,aM,cD,dK,rfl,az,(hm.pick [0] rfl)⟩
theorem EP(q:Tg)(cq mh:Nat)(cs:List aa)(w0:World)(hq:Rd w0 q (cs.flatMap JM))(hl:cs.length≤100)(E:Tl)(Z:Tf)(hZ:Jr w0 Z)(hz:QP 239 3 cs.length E mh Z)(hE:E.length≤10000)(kM:∀ e,e∈E↔Pl.AS cs cs.length e):C Tryz.prog 97 [.agg ⟨[.slice q cs.length cq,.pointer (some ⟨mh,0,none⟩)]⟩] w0 fun v w'=>∃ (p:Tg) (k c g:Nat) (b:ag) (out:Tj),v=.slice p k c∧Acc 3 1 p k c (out.flatMap Cx.encI) g b∧Pl.Evs E (cs.map aa.ln) (Pl.Xa cs cs.length) out∧(∀ v,¬ Pl.Path (Pl.wo E out) v v)∧out.Nodup∧(∀ v∈out,0≤v∧v<(cs.length:Int))∧Mem w0 w' No [(g,b)]:=by
 have nk:=hE
 have bL:=Ig kM
 refine aH Tryz.func97 fun κ _ Je Jc hm=>?_
 refine au 2 ?_
 refine bT hm fun mr w hm=>?_
 refine au 6 ?_
 replace hm:=hm.JP
 have az:=Acc.nil 3 1 none 0
 refine au 12 ?_
 refine Jg (ι:=Nat×Ow) rfl (ks:=[1,2,9,10]) Tn (fun x=>[(11,.int .i64 (x.1:Int)),(3,.slice x.2.p x.2.n x.2.cap)]) (fun x w=>Mem w0 w No [(x.2.g,x.2.b),(mr,.row 133 [.slice q cs.length cq,.pointer (some ⟨mh,0,none⟩)])]∧Acc 3 1 x.2.p x.2.n x.2.cap (((cs.take x.1).map aa.ln).flatMap Cx.encI) x.2.g x.2.b∧x.1≤cs.length) (fun x=>cs.length-x.1) (0,⟨none,0,0,0,.gap⟩) (⟨(hm.pick [0,1] rfl),az,LL _⟩) Tm (fun x w hM=>?_)
 obtain ⟨k,dJ,KR,aM,cD,dK⟩:=x
 obtain ⟨hm,az,hk⟩:=hM
 simp only at hm az hk ⊢
 obtain rfl:=az.QB Jq Tb
 have r5:((cs.take k).map aa.ln).length≤k:=by rw [Lj,Lg]; omega
 refine au 6 ?_
 refine cd (fun ai=>?_) fun ai=>?_
 ·
  simp only [dT] at ai
  obtain ⟨c,hi⟩:∃ y_,cs[k]?=some y_:=⟨_,La Ta⟩
  obtain ⟨qb,qo,rfl⟩:=hq.bS Jf Tb hi
  refine au 7 ?_
  refine Ja rfl rfl (JU rfl ag60.h (hq.Jj hm.to).nt Jf hi)<|aT hm fun mc w hm=>?_
  refine st hm 0 fun w hm=>?_
  refine au 6 ?_
  refine Jb (l:=[_]) rfl rfl sl134.h z3.h rfl rfl rfl rfl rfl rfl rfl hm trivial fun m1 w c5 hm hh=>Jy rfl rfl rfl rfl rfl rfl sl134.h sl134.h z3.h rfl rfl (Rd.JL (hm.get (k:=0) rfl)) rfl az hm 2 rfl Ta Ta fun dJ aM cD dK w az hm=>au 8 ?_
  exact next (k+1,⟨dJ,_,aM,cD,dK⟩) Td ⟨(hm.pick [2,3] rfl),az.to (by simp only; rw [QG hi,Lx,Lh]; rfl),Td⟩ ⟨nx k,Tm⟩
 ·
  simp only [dF] at ai
  have b8:k=cs.length:=by omega
  rw [b8,Lv] at az ⊢
  have hll2:=rH cs cs.length
  have hwl2:(cs.map aa.ln).length=cs.length:=Lj _
  refine au 6 ?_
  refine dw [0,3,6,9,13,16,18,21,24,27,30] hm fun w hw ar hh hm=>?_
  refine au 4 ?_
  refine ca rfl rfl rfl (EO q cq mh cs _ (hq.Jj hm.to) hl) fun v w hR=>?_
  obtain ⟨OZ,nC,g_k,P',rfl,ji,ae⟩:=hR
  refine ⟨hh.ext ae.to,?_⟩
  have O0:P'.real=true→_:=fun hr=>(ae.fresh _ Lo hr).resolve_left id
  replace hh:=hh.ext ae.to
  replace hm:=hm.Jt ae
  refine ca rfl rfl rfl (EL cs.length mh E Z _ (hZ.ext hm.to) hz Ta dJ aM (cs.map aa.ln) (az.rd hm 1 rfl) Ta OZ nC (Pl.Xa cs cs.length) (ji.rd hm 0 rfl) Ta bL Ta) fun v w hR=>?_
  obtain ⟨ud,n_e,dZ,Bn,Bo,evd,rfl,cP,wW,vo,wX,wY,ae⟩:=hR
  refine ⟨hh.ext ae.to,?_⟩
  replace hm:=hm.Jt ae
  obtain rfl:=cP.QB Jq Tb
  replace hh:=hh.ext ae.to
  refine au 15 ?_
  exact ⟨ud,_,dZ,Bn,Bo,evd,rfl,cP,wW,vo,wX,wY,(hm.pick [0] rfl)⟩
theorem jbS(q:Tg)(cq:Nat)(cs:List aa)(w0:World)(hq:Rd w0 q (cs.flatMap JM))(hl:cs.length≤100)(b6:∀ c∈cs,Pl.av c.cm=0)(hd:(cs.map Pl.nQ).Pairwise Pl.KN):C Tryz.prog 65 [.slice q cs.length cq] w0 fun v w'=>∃ (mh:Nat) (p1:Tg) (c1 g1:Nat) (b1:ag) (evd:Tj) (p2:Tg) (c2 g2:Nat) (b2:ag) (ord:Tj) (E:Tl),v=.agg ⟨[.slice q cs.length cq,.pointer (some ⟨mh,0,none⟩),.slice p1 evd.length c1,.slice p2 ord.length c2]⟩∧Acc 3 1 p1 evd.length c1 (evd.flatMap Cx.encI) g1 b1∧Acc 3 1 p2 ord.length c2 (ord.flatMap Cx.encI) g2 b2∧(∀ e,e∈E↔Pl.AS cs cs.length e)∧Pl.Evs E (cs.map aa.ln) (Pl.Xa cs cs.length) evd∧Pl.Kahn E (Pl.ea ((Pl.Xa cs cs.length)++evd) cs.length) ord []∧evd.Nodup∧(∀ v∈evd,0≤v∧v<(cs.length:Int))∧Mem w0 w' No [(g1,b1),(g2,b2)]:=by
 refine aH Tryz.func65 fun κ _ Je Jc hm=>?_
 refine au 2 ?_
 refine aT hm fun mt w hm=>?_
 refine au 6 ?_
 refine cT rfl rfl rfl (H4 q cq cs _ (hq.Jj hm.to) hl b6 hd) fun v w hR=>?_
 obtain ⟨E,mh,Zh,rfl,hz,nk,kM,ae⟩:=hR
 replace hm:=hm.XR ae
 have aq:∀ e∈E,0≤e.1∧e.1<(cs.length:Int)∧0≤e.2∧e.2<(cs.length:Int):=by obtain ⟨_,_,_,_,_,_,_,_,_,hg,_⟩:=hz; exact fun e he=>by have:=hg.ok e he; omega
 refine au 1 ?_
 refine Ja rfl rfl (Qe (cs:=[_,_,_,_]) z136.h ft136.h rfl rfl rfl rfl rfl)<|aT hm fun mc w hm=>?_
 refine st hm 0 fun w hm=>?_
 refine au 6 ?_
 refine cT rfl rfl rfl (EP q cq mh cs _ (hq.Jj hm.to) hl E Zh (Jr.right (A:=[_,_]) hm.Jz) hz nk kM) fun v w hR=>?_
 obtain ⟨ud,n_e,dZ,Bn,Bo,evd,rfl,cP,wW,vo,wX,wY,ae⟩:=hR
 replace hm:=hm.Jt ae
 obtain rfl:=cP.QB Jq Tb
 have r5:=rH cs cs.length
 have jbT:evd.length≤cs.length:=by have:=Pl.VE (m:=Pl.ids cs.length) wX (fun v hv=>Pl.XK.2 (wY v hv)); rwa [Pl.Qj] at this
 refine au 1 ?_
 refine st hm 1 fun w hm=>?_
 refine au 3 ?_
 refine dw [0,3,6,9,12,18,21,16,25,28,30,33,36,2,39,43] hm fun w hw ar hh hm=>?_
 refine au 7 ?_
 refine ca rfl rfl rfl (EO q cq mh cs _ (hq.Jj hm.to) hl) fun v w hR=>?_
 obtain ⟨OZ,nC,g_k,P',rfl,ji,ae⟩:=hR
 refine ⟨hh.ext ae.to,?_⟩
 have O0:P'.real=true→_:=fun hr=>(ae.fresh _ Lo hr).resolve_left id
 replace hh:=hh.ext ae.to
 replace hm:=hm.Jt ae
 refine Xm rfl rfl rfl rfl rfl rfl sl134.h sl134.h z3.h rfl (Eg _) (cP.rd hm 1 rfl) (uH _) ji hm 0 rfl Ta Ta hh (fun h9=>.inl (O0 h9)) fun OZ nC g_k P' w _ ji hm hh O0=>?_
 have KW:(Pl.Xa cs cs.length).length+evd.length=((Pl.Xa cs cs.length)++evd).length:=(Lc ..).symm
 rw [KW] at ji ⊢
 rw [← Lh] at ji
 refine ca rfl rfl rfl (H' cs.length mh E Zh _ (Jr.right (A:=[_,_,_,_]) hm.Jz) hz Ta OZ nC ((Pl.Xa cs cs.length)++evd) (ji.rd hm 0 rfl) (by rw [← KW]; omega) (fun K h1 h2=>OY aq vo h1 h2)) fun v w hR=>?_
 obtain ⟨nB,n_r,cx,ov,ow,ord,rfl,bq,fh,ae⟩:=hR
 refine ⟨hh.ext ae.to,?_⟩
 replace hm:=hm.Jt ae
 obtain rfl:=bq.QB Jq Tb
 replace hh:=hh.ext ae.to
 refine au 5 ?_
 refine st hm 3 fun w hm=>?_
 refine au 4 ?_
 refine Ja rfl rfl (Jm (s:=4) (vs:=[_,_,_,_]) rfl ag136.h (hm.nt 3 rfl) rfl)<|st hm 4 fun w hm=>?_
 refine au 3 ?_
 refine dD (fin Je rfl (.cell rfl (Ju (vs:=[_,_,_,_]) ag136.h (hm.get (k:=4) rfl) rfl) .nil) .one ?_)
 exact ⟨mh,ud,dZ,Bn,Bo,evd,nB,cx,ov,ow,ord,E,rfl,cP,bq,kM,wW,fh,wX,wY,(hm.pick [2,0] rfl)⟩
end Go.Proofs.YtaehgpeenaomcaaGreat
