/- Part 12 of the proof of TopShapes: Seq DgA DgB DgC DgD DgE CfA CfB ToA ToB VcA VcB VcC. Conditions: the hypotheses of each theorem. -/
import Derived.Test.YtaehgpeenaomcaaGreatY10
import Derived.Test.YtaehgpeenaomcaaGreatChecked
set_option maxRecDepth 10000
set_option maxHeartbeats 4000000
set_option linter.unusedVariables false
set_option linter.unusedSimpArgs false
namespace Go.Proofs.YtaehgpeenaomcaaGreat
open Go Go.Cx
end Go.Proofs.YtaehgpeenaomcaaGreat
namespace Go.Cx
open Go Go.Cx Go.Proofs.YtaehgpeenaomcaaGreat
def Gives(P:Program)(fs:FuncId)(lb:List Value)(xs:List Int)(Wd:World→Prop):Prop:=∀ (yl:Nat) (I:List (Nat×Blk)→List Int→World→Prop) (w0:World),(∀ F ys w,I F ys w→Wd w∧Jr w F) →
 (∀ Z Z' F ys w w',I (Z++F) ys w→Mem w w' (Mn (reals Z)) Z'→I (Z'++F) ys w')→(∀ F ys x w,I F ys w→ys.length<xs.length→Yw P yl [.int .i64 x] w fun v w'=>v=.bool true∧I F (ys++[x]) w')→I [] [] w0 →
 C P fs (.func (.yield yl) #[] #[]::lb) w0 fun v w'=>v=.tuple ⟨[]⟩∧∃ F ys,ys.Perm xs∧I F ys w'
end Go.Cx
namespace Go.Proofs.YtaehgpeenaomcaaGreat
open Go Go.Cx
theorem v_values1(m1:Nat)(p:Option Addr)(cap:Nat)(xs:List Int)(yl:Nat)(I:List (Nat×Blk)→List Int→World→Prop)(w0:World)(hl:xs.length≤1000000)
 (hown:∀ F ys w,I F ys w→(w.heap[m1]?=some (Blk.row 134 [.slice p xs.length cap]).Jd∧Rd w p (xs.flatMap Cx.encI))∧Jr w F) (hstep:∀ Z Z' F ys w w',I (Z++F) ys w→Mem w w' (Mn (reals Z)) Z'→I (Z'++F) ys w')
 (hy:∀ F ys x w,I F ys w→ys.length<xs.length→Yw Tryz.prog yl [.int .i64 x] w fun v w'=>v=.bool true∧I F (ys++[x]) w') (h0:I [] [] w0):C Tryz.prog 248 [.func (.yield yl) #[] #[],.pointer (some ⟨m1,0,none⟩)] w0 fun v w'=>v=.tuple ⟨[]⟩∧∃ F ys,ys.Perm xs∧I F ys w':=by
 refine C_o Tryz.func248 fun κ _ Je Jc hm=>?_
 refine au 2 ?_
 refine Ja rfl rfl (Jh rfl sc134.h (Qo ((hm.to.same _ (Lb.1 (hown _ _ _ h0).1.1).1 id).trans (hown _ _ _ h0).1.1)) rfl) ?_
 refine au 5 ?_
 refine Jg (ι:=Nat) rfl (ks:=[0,5,6]) (.cons rfl (.cons rfl (.cons rfl .nil))) (fun x=>[(7,.int .i64 (x:Int))]) (fun x w=>I [] (xs.take x) w∧x≤xs.length) (fun x=>xs.length-x) 0 (⟨hstep [] [] [] _ _ _ h0 hm.toMn,LL _⟩) ⟨rfl,trivial⟩ (fun x w hM=>?_)
 obtain ⟨k,rfl⟩:∃ k,x=k:=⟨_,rfl⟩
 obtain ⟨hI,hk⟩:=hM
 have hm:=Mem.start w
 obtain ⟨⟨hR1,hR2⟩,hR3⟩:=hown _ _ _ hI
 refine au 6 ?_
 refine cd (fun hc0=>?_) fun hc0=>?_
 ·
  simp only [dT] at hc0
  obtain ⟨z,hi⟩:∃ y_,xs[x]?=some y_:=⟨_,La (by omega)⟩
  obtain ⟨qb,qo,rfl⟩:=hR2.atI Jq (by decide) hi
  refine au 7 ?_
  refine Ja rfl rfl (J3 rfl sc3.h (hR2.Jj hm.to).nt Jq hi rfl) ?_
  refine au 7 ?_
  have hI2:=hstep [] [] _ _ _ _ hI hm.toMn
  refine XM rfl rfl rfl rfl (hy _ _ z _ hI2 (by rw [Lg]; omega)) fun v w hR=>?_
  refine ⟨trivial,?_⟩
  obtain ⟨rfl,hI4⟩:=hR
  have hm:=Mem.start w
  refine au 11 ?_
  refine next (x+1) (by omega) ⟨hstep [] [] [] _ _ _ (by rw [QG hi]; exact hI4) hm.toMn,by omega⟩ ⟨nx x,rfl,rfl,rfl,trivial⟩
 ·
  simp only [dF] at hc0
  have hke:x=xs.length:=by omega
  subst hke
  rw [Lv] at hI
  refine au 4 ?_
  refine toN (fin Jc rfl .nil .nil ?_)
  exact ⟨rfl,_,_,List.Perm.refl _,hI⟩
theorem gives_values(m1:Nat)(p:Option Addr)(cap:Nat)(xs:List Int)(hl:xs.length≤1000000):Gives Tryz.prog 248 [.pointer (some ⟨m1,0,none⟩)] xs fun w=>w.heap[m1]?=some (Blk.row 134 [.slice p xs.length cap]).Jd∧Rd w p (xs.flatMap Cx.encI):=fun yl I w0 h1 h2 h3 h4=>v_values1 m1 p cap xs yl I w0 hl h1 h2 h3 h4
theorem v_values(p:Option Addr)(n cap:Nat)(w0:World):C Tryz.prog 206 [.slice p n cap] w0 fun v w'=>∃ m1,v=.func (.func 248) #[] ⟨[.pointer (some ⟨m1,0,none⟩)]⟩∧Mem w0 w' No [(m1,.row 134 [.slice p n cap])]:=by
 refine C_o Tryz.func206 fun κ _ Je Jc hm=>?_
 refine au 2 ?_
 refine bT hm fun m1 w hm=>?_
 refine au 11 ?_
 exact ⟨_,rfl,hm⟩
theorem v_app(fs:Nat)(lb:List Value)(xs:List Int)(Wd:World→Prop)(w0:World)(hg:JH Tryz.prog fs=true)(hs:Gives Tryz.prog fs lb xs Wd)(hl:xs.length≤1000000)(hW:∀ w,Ext No w0 w→Wd w):C Tryz.prog 277 [.slice none 0 0,.func (.func fs) #[] ⟨lb⟩] w0 fun v w'=>∃ (p:Option Addr) (n cap g:Nat) (b:Blk) (ys:List Int),v=.slice p n cap∧ys.Perm xs∧Acc 3 1 p n cap (ys.flatMap Cx.encI) g b∧Mem w0 w' No [(g,b)]:=by
 refine Zt Tryz.func277 rfl rfl rfl fun κ _ Je Jc=>?_
 have hm:=Mem.start w0
 refine au 2 ?_
 refine bT hm fun m3 w hm=>?_
 replace hm:=hm.JP
 have ha_u:=Acc.nil 3 1 none 0
 refine au 10 ?_
 refine VJ rfl rfl hg hm fun a_ fn r0 l w LB hLB hfr hl_ hs_ hm=>?_
 refine C.mono (hs l (fun F ys w=>∃ p n cap g b9,Mem w0 w No ((l,LB .ready none)::(r0,dblk (some []))::(g,b9)::(m3,.row 134 [.slice p n cap])::F)∧Acc 3 1 p n cap (ys.flatMap Cx.encI) g b9) _
  (by rintro F ys w ⟨p,n,cap,g,b9,hm,-⟩; exact ⟨hW _ hm.to,Jr.right (A:=[_,_,_,_]) hm.Jz⟩)
  (by rintro Z Z' F ys w w' ⟨p,n,cap,g,b9,hm,ha⟩ hc; exact ⟨p,n,cap,g,b9,Mem.callM (A:=[_,_,_,_]) hm hc,ha⟩)
  (fun F ys x w hI hlt=>?_) ⟨_,_,_,_,_,hm,ha_u⟩) (fun v w hR=>?_)
 ·
  subst hLB
  obtain ⟨p_u,n_u,cap_u,g_u,b_u,hm,ha_u⟩:=hI
  obtain rfl:=ha_u.QB Jq (by decide)
  refine Yw.of hfr (hm.get (k:=0) rfl) rfl rfl ?_
  refine au 3 ?_
  refine Xf hm 0 rfl fun w hm=>?_
  refine au 4 ?_
  refine Jb (l:=[_]) rfl rfl sl134.h z3.h rfl rfl rfl rfl rfl rfl rfl hm trivial fun m1 w hg_m1 hm hh=>?_
  refine Jy rfl rfl rfl rfl rfl rfl sl134.h sl134.h z3.h rfl rfl (Rd.JL (hm.get (k:=0) rfl)) rfl ha_u hm 3 rfl (by omega) (by omega) fun p_u cap_u g_u b_u w ha_u hm=>?_
  refine st hm 4 fun w hm=>?_
  refine au 2 ?_
  refine g_end hm 1 rfl fun w hm=>?_
  refine ⟨rfl,p_u,_,cap_u,g_u,b_u,(hm.Jp [1,2,3,4] 5 rfl),ha_u.to ?_⟩
  rw [Lh]; rfl
 ·
  subst hLB
  obtain ⟨rfl,F,ys,hyp,p_u,n_u,cap_u,g_u,b_u,hm,ha_u⟩:=hR
  refine ⟨.ready,none,nofun,hm.get (k:=0) rfl,fun w4 hw4=>?_⟩
  replace hm:=Xw hm hw4
  refine au 9 ?_
  refine toR (fin1 Je rfl hm 0 rfl .one fun w hm=>⟨(.tmp rfl .nil),?_⟩)
  exact ⟨_,_,_,_,_,ys,rfl,hyp,ha_u,(hm.pick [1] rfl)⟩
theorem v_collect(fs:Nat)(lb:List Value)(xs:List Int)(Wd:World→Prop)(w0:World)(hg:JH Tryz.prog fs=true)(hs:Gives Tryz.prog fs lb xs Wd)(hl:xs.length≤1000000)(hW:∀ w,Ext No w0 w→Wd w):C Tryz.prog 246 [.func (.func fs) #[] ⟨lb⟩] w0 fun v w'=>∃ (p:Option Addr) (n cap g:Nat) (b:Blk) (ys:List Int),v=.slice p n cap∧ys.Perm xs∧Acc 3 1 p n cap (ys.flatMap Cx.encI) g b∧Mem w0 w' No [(g,b)]:=by
 refine C_o Tryz.func246 fun κ _ Je Jc hm=>?_
 refine au 8 ?_
 refine cT rfl rfl rfl (v_app fs lb xs Wd _ hg hs hl fun w hx=>hW _ (hm.to.trans hx)) fun v w hR=>?_
 obtain ⟨p_u,n_u,cap_u,g_u,b_u,ys,rfl,hyp,ha_u,hmc⟩:=hR
 replace hm:=hm.Jt hmc
 refine au 5 ?_
 exact ⟨_,_,_,_,_,ys,rfl,hyp,ha_u,(hm.pick [0] rfl)⟩
theorem v_sorted(fs:Nat)(lb:List Value)(xs:List Int)(Wd:World→Prop)(w0:World)(hg:JH Tryz.prog fs=true)(hs:Gives Tryz.prog fs lb xs Wd)(hl:xs.length≤1000000)(hW:∀ w,Ext No w0 w→Wd w):C Tryz.prog 205 [.func (.func fs) #[] ⟨lb⟩] w0 fun v w'=>∃ p n cap g b,v=.slice p n cap∧Acc 3 1 p n cap ((Pl.srt xs).flatMap Cx.encI) g b∧Mem w0 w' No [(g,b)]:=by
 refine C_o Tryz.func205 fun κ _ Je Jc hm=>?_
 refine au 8 ?_
 refine cT rfl rfl rfl (v_collect fs lb xs Wd _ hg hs hl fun w hx=>hW _ (hm.to.trans hx)) fun v w hR=>?_
 obtain ⟨p_u,n_u,cap_u,g_u,b_u,ys,rfl,hyp,ha_u,hmc⟩:=hR
 replace hm:=hm.Jt hmc
 obtain rfl:=ha_u.QB Jq (by decide)
 have hyl:=hyp.length_eq
 refine au 6 ?_
 refine cT rfl rfl rfl (sort_i p_u g_u cap_u b_u ys _ ha_u (fun h9=>hm.getR (k:=0) rfl h9) (by omega)) fun v w hR=>?_
 obtain ⟨rfl,b2,ha_2,hsr⟩:=hR
 replace hm:=hm.callS 0 rfl hsr
 have ha_2:Acc 3 1 p_u ys.length cap_u ((Pl.srt ys).flatMap Cx.encI) g_u b2:=ha_2
 rw [Pl.srt_eq hyp] at ha_2
 refine au 10 ?_
 exact ⟨_,_,_,_,_,rfl,ha_2,hm⟩
theorem mg237:MK Tryz.prog 237 kvI (.slice none 0 0):=.i (by kernel_rfl)
theorem g_new(n:Nat)(w0:World)(hn:n≤1048576):C Tryz.prog 123 [.int .i64 (n:Int)] w0 fun v w'=>∃ m Z,v=.pointer (some ⟨m,0,none⟩)∧QP 239 3 n [] m Z∧Mem w0 w' No Z:=by
 refine C_o Tryz.func123 fun κ _ Je Jc hm=>?_
 refine au 9 ?_
 refine Ja rfl rfl (JA (c:=false) (VO rfl rfl) (LN (by omega))) ?_
 refine au 2 ?_
 refine Ja rfl rfl (JA (c:=false) (XE rfl rfl) (LN (by omega))) ?_
 refine au 9 ?_
 refine a_makeG kvE rfl rfl hm trivial fun me w hg_me hm hh=>?_
 refine a_makeG kvI rfl rfl hm trivial fun mo w hg_mo hm hh=>?_
 refine a_makeG kvI rfl rfl hm trivial fun mi w hg_mi hm hh=>?_
 refine Ja rfl rfl (Qe (cs:=[_,_,_,_]) z239.h ft239.h rfl rfl rfl rfl rfl) ?_
 refine bT hm fun m w hm=>?_
 refine au 5 ?_
 exact ⟨m,_,rfl,⟨me,mo,mi,[],0,[],[],0,0,GrZ.nil _ hn,rfl⟩,(hm.pick [0,3,2,1] rfl)⟩
theorem g_len(n m:Nat)(l:List Value)(w0:World)(h0:w0.heap[m]?=some (Blk.row 239 (.int .i64 (n:Int)::l)).Jd):C Tryz.prog 160 [.pointer (some ⟨m,0,none⟩)] w0 fun v w'=>v=.int .i64 n∧Ext No w0 w':=by
 refine C_o Tryz.func160 fun κ _ Je Jc hm=>?_
 refine au 26 ?_
 exact ⟨rfl,hm.to⟩
theorem g_vertex(n m:Nat)(l:List Value)(a:Int)(w0:World)(h0:w0.heap[m]?=some (Blk.row 239 (.int .i64 (n:Int)::l)).Jd):C Tryz.prog 157 [.pointer (some ⟨m,0,none⟩),.int .i64 a] w0 fun v w'=>v=.bool (decide (0≤a)&&decide (a<n))∧Ext No w0 w':=by
 refine C_o Tryz.func157 fun κ _ Je Jc hm=>?_
 refine au 12 ?_
 refine J1 rfl rfl rfl (fun hc=>(J8 (gx hc rfl) QL)) go160 (fun hc=>(g_len n m l _ (Qp hm.to h0))) trivial fun w hE hh=>?_
 replace hm:=hm.ext hE
 refine au 7 ?_
 exact ⟨rfl,hm.to⟩
theorem g_out(n m:Nat)(E:List (Int×Int))(Z:List (Nat×Blk))(w0:World)(hZ:Jr w0 Z)(hz:QP 239 3 n E m Z)(hE:E.length≤1000000)(a:Int):C Tryz.prog 162 [.pointer (some ⟨m,0,none⟩),.int .i64 a] w0 fun v w'=>∃ p k cap g b,v=.slice p k cap∧Acc 3 1 p k cap ((Pl.srt (Pl.outs E a)).flatMap Cx.encI) g b∧Mem w0 w' No [(g,b)]:=by
 have hle:n≤1048576:=by obtain ⟨_,_,_,_,_,_,_,_,_,hg,_⟩:=hz; exact hg.le
 obtain ⟨me,mo,mi,ee,ce,lo,li,co,ci,hg,rfl⟩:=hz
 obtain ⟨q,cq,hq1,hq2⟩:=hg.ho.rd a (w:=w0) (A:=[_,_,_,_]) (Y:=[]) (Z:=adB li++[]) hZ
 have hol:=Pl.Yj E a
 refine C_o Tryz.func162 fun κ _ Je Jc hm=>?_
 refine au 20 ?_
 refine Ja rfl rfl (Jh rfl sc237.h (Qo ((hm.to.same _ (Lb.1 (hZ.get (k:=0) rfl)).1 id).trans (hZ.get (k:=0) rfl))) rfl) ?_
 refine au 1 ?_
 refine Ja rfl rfl (y_v (Vz rfl rfl rfl mg237 (Qo (Qp hm.to (hZ.get (k:=2) rfl)))) hq1) ?_
 refine cT rfl rfl rfl (v_values q _ cq _) fun v w hR=>?_
 obtain ⟨m1,rfl,hmc⟩:=hR
 replace hm:=hm.Jt hmc
 refine cT rfl rfl rfl (v_sorted _ _ (Pl.outs E a) _ _ go248 (gives_values m1 q cq _ (by omega)) (by omega) (fun w9 hx9=>⟨Qp hx9 (hm.get (k:=0) rfl),hq2.Jj (hm.to.trans hx9)⟩)) fun v w hR=>?_
 obtain ⟨p_u,n_u,cap_u,g_u,b_u,rfl,ha_u,hmc⟩:=hR
 replace hm:=hm.Jt hmc
 refine au 5 ?_
 exact ⟨_,_,_,_,_,rfl,ha_u,(hm.pick [0] rfl)⟩
theorem g_in(n m:Nat)(E:List (Int×Int))(Z:List (Nat×Blk))(w0:World)(hZ:Jr w0 Z)(hz:QP 239 3 n E m Z)(hE:E.length≤1000000)(a:Int):C Tryz.prog 161 [.pointer (some ⟨m,0,none⟩),.int .i64 a] w0 fun v w'=>∃ p k cap g b,v=.slice p k cap∧Acc 3 1 p k cap ((Pl.srt (Pl.ins E a)).flatMap Cx.encI) g b∧Mem w0 w' No [(g,b)]:=by
 have hle:n≤1048576:=by obtain ⟨_,_,_,_,_,_,_,_,_,hg,_⟩:=hz; exact hg.le
 obtain ⟨me,mo,mi,ee,ce,lo,li,co,ci,hg,rfl⟩:=hz
 obtain ⟨q,cq,hq1,hq2⟩:=hg.hi.rd a (w:=w0) (A:=[_,_,_,_]) (Y:=adB lo) (Z:=[]) hZ
 have hol:=Pl.ins_le E a
 refine C_o Tryz.func161 fun κ _ Je Jc hm=>?_
 refine au 20 ?_
 refine Ja rfl rfl (Jh rfl sc237.h (Qo ((hm.to.same _ (Lb.1 (hZ.get (k:=0) rfl)).1 id).trans (hZ.get (k:=0) rfl))) rfl) ?_
 refine au 1 ?_
 refine Ja rfl rfl (y_v (Vz rfl rfl rfl mg237 (Qo (Qp hm.to (hZ.get (k:=3) rfl)))) hq1) ?_
 refine cT rfl rfl rfl (v_values q _ cq _) fun v w hR=>?_
 obtain ⟨m1,rfl,hmc⟩:=hR
 replace hm:=hm.Jt hmc
 refine cT rfl rfl rfl (v_sorted _ _ (Pl.ins E a) _ _ go248 (gives_values m1 q cq _ (by omega)) (by omega) (fun w9 hx9=>⟨Qp hx9 (hm.get (k:=0) rfl),hq2.Jj (hm.to.trans hx9)⟩)) fun v w hR=>?_
 obtain ⟨p_u,n_u,cap_u,g_u,b_u,rfl,ha_u,hmc⟩:=hR
 replace hm:=hm.Jt hmc
 refine au 5 ?_
 exact ⟨_,_,_,_,_,rfl,ha_u,(hm.pick [0] rfl)⟩
theorem mg236:MK Tryz.prog 236 kvE (.bool false):=.e (by kernel_rfl)
end Go.Proofs.YtaehgpeenaomcaaGreat
namespace Go.Pl
open Go Go.Cx Go.Proofs.YtaehgpeenaomcaaGreat
def gadds(n:Nat)(E es:List (Int×Int)):List (Int×Int):=es.foldl (Pl.gadd n) E
end Go.Pl
namespace Go.Proofs.YtaehgpeenaomcaaGreat
open Go Go.Cx
theorem gadds_next{n:Nat}{E es:List (Int×Int)}{k:Nat}{e:Int×Int}(h:es[k]?=some e):Pl.gadds n E (es.take (k+1))=Pl.gadd n (Pl.gadds n E (es.take k)) e:=by
 rw [LC,h]
 simp [Pl.gadds]
theorem gadds_le(n:Nat):∀ (es E:List (Int×Int)),(Pl.gadds n E es).length≤E.length+es.length
 | [],E=>by simp [Pl.gadds]
 | e::r,E=>by
  have h:=gadds_le n r (Pl.gadd n E e)
  have h1:=Pl.gadd_le n E e
  have h2:Pl.gadds n E (e::r)=Pl.gadds n (Pl.gadd n E e) r:=rfl
  rw [h2,Li]
  omega
theorem gok_not(n:Nat)(E:List (Int×Int))(e:Int×Int):(((!(decide (0≤e.1)&&decide (e.1<(n:Int)))||!(decide (0≤e.2)&&decide (e.2<(n:Int))))||decide (e.1=e.2))||decide (e∈E))=!Pl.gok n E e:=by
 rw [Bool.eq_iff_iff]
 simp only [Pl.gok,bB,bE,Bool.and_eq_false_imp,bA,dT,dF,← Bool.not_eq_true]
 by_cases h1:0≤e.1 <;> by_cases h2:e.1<(n:Int) <;> by_cases h3:0≤e.2 <;> by_cases h4:e.2<(n:Int) <;> by_cases h5:e.1=e.2 <;> by_cases h6:e∈E <;> simp [h1,h2,h3,h4,h5,h6]
theorem g_add(n m:Nat)(E:List (Int×Int))(Z:List (Nat×Blk))(w0:World)(hZ:Jr w0 Z)(hz:QP 239 3 n E m Z)(hE:E.length≤1000000)(q:Option Addr)(cq:Nat)(es:List (Int×Int))(hq:Rd w0 q (es.flatMap Q9))(hqX:es.flatMap Q9≠[]→∀ ad,q=some ad→¬ Mn (reals Z) ad.block)(hl:es.length≤1000000):C Tryz.prog 126 [.pointer (some ⟨m,0,none⟩),.slice q es.length cq] w0 fun v w'=>∃ c Z',v=.int .i64 c∧QP 239 3 n (Pl.gadds n E es) m Z'∧Mem w0 w' (Mn (reals Z)) Z':=by
 refine Vk Tryz.func126 rfl rfl rfl fun κ _ Je Jc=>?_
 have hm:=hZ.start
 refine au 19 ?_
 refine Jg (ι:=Nat×Int×List (Nat×Blk)) rfl (ks:=[0,4,8,9]) (.cons rfl (.cons rfl (.cons rfl (.cons rfl .nil)))) (fun x=>[(10,.int .i64 (x.1:Int)),(5,.int .i64 x.2.1)]) (fun x w=>Mem w0 w (Mn (reals Z)) x.2.2∧QP 239 3 n (Pl.gadds n E (es.take x.1)) m x.2.2∧x.1≤es.length∧0≤x.2.1∧x.2.1≤x.1) (fun x=>es.length-x.1) (0,0,Z) (⟨hm,hz,LL _,Int.le_refl _,Int.le_refl _⟩) ⟨rfl,rfl,trivial⟩ (fun x w hM=>?_)
 obtain ⟨k,c,Z1⟩:=x
 obtain ⟨hm,hz1,hk,hc1,hc2⟩:=hM
 simp only at hm hz1 hk hc1 hc2 ⊢
 have hE2:=gadds_le n (es.take k) E
 rw [Lg] at hE2
 generalize hE1:Pl.gadds n E (es.take k)=E1 at hz1 hE2
 obtain ⟨me,mo,mi,ee,ce,lo,li,co,ci,hg,rfl⟩:=hz1
 refine au 6 ?_
 refine cd (fun hc0=>?_) fun hc0=>?_
 ·
  simp only [dT] at hc0
  obtain ⟨e,hi⟩:∃ y_,es[k]?=some y_:=⟨_,La (by omega)⟩
  obtain ⟨qb,qo,rfl⟩:=(hq.Yu hm.to hqX).atI QM (by decide) hi
  refine au 7 ?_
  refine Ja rfl rfl (JU rfl ag201.h (hq.Yu hm.to hqX).nt QM hi) ?_
  refine aT hm fun ed w hm=>?_
  refine st hm 0 fun w hm=>?_
  refine au 4 ?_
  refine dw [0,3,6,10,12,15,18,21,24,28,30,33,36,39,42,45,48,51,54,57,60,63,66,69,72,75,78] hm fun w hw hm0 hh hm=>?_
  refine au 3 ?_
  refine cB rfl rfl rfl (g_vertex n m _ e.1 _ (hm.get (k:=1) rfl)) hm hh fun w hm hh=>?_
  refine Ja rfl rfl (y_not rfl) ?_
  refine Ja rfl rfl (Jx rfl) ?_
  refine JK rfl rfl rfl (fun hc=>(Jx rfl)) ?_
  refine JK rfl rfl rfl (fun hc=>(Jv rfl fo201_1.h)) ?_
  refine JK rfl rfl rfl (fun hc=>(Jh (gx hc rfl) sc3.h (hm0.nd 0 rfl id) rfl)) ?_
  refine J1 rfl rfl rfl (fun hc=>(J8 (gx hc rfl) (J8 (gx hc rfl) QL))) go157 (fun hc=>(g_vertex n m _ e.2 _ (hm.get (k:=1) rfl))) hh fun w hE hh=>?_
  replace hm:=hm.ext hE
  refine JK rfl rfl rfl (fun hc=>(y_not (gx hc rfl))) ?_
  refine Ja rfl rfl (y_or rfl rfl rfl) ?_
  refine Ja rfl rfl (Jx rfl) ?_
  refine JK rfl rfl rfl (fun hc=>(Jv rfl fo201_0.h)) ?_
  refine JK rfl rfl rfl (fun hc=>(Jh (gx hc rfl) sc3.h (hm0.nd 0 rfl id) rfl)) ?_
  refine JK rfl rfl rfl (fun hc=>(Jv rfl fo201_1.h)) ?_
  refine JK rfl rfl rfl (fun hc=>(Jh (gx hc rfl) sc3.h (hm0.nd 0 rfl id) rfl)) ?_
  refine JK rfl rfl rfl (fun hc=>(V3 (gx hc rfl) (gx hc rfl))) ?_
  refine Ja rfl rfl (y_or rfl rfl rfl) ?_
  refine Ja rfl rfl (Jx rfl) ?_
  refine JK rfl rfl rfl (fun hc=>(Jx rfl)) ?_
  refine JK rfl rfl rfl (fun hc=>(y_nil (gx hc rfl))) ?_
  refine JK rfl rfl rfl (fun hc=>(Jv (gx hc rfl) fo239_1.h)) ?_
  refine JK rfl rfl rfl (fun hc=>(Jh (gx hc rfl) sc236.h (hm0.nd 1 rfl id) rfl)) ?_
  refine JK rfl rfl rfl (fun hc=>(Jm (s:=2) (vs:=[_,_]) rfl ag201.h (hm0.nd 0 rfl id) rfl)) ?_
  refine JK rfl rfl rfl (fun hc=>(y_v (Vz (kk:=e) (gx hc rfl) (gx hc rfl) rfl mg236 (hm0.nd 2 rfl id)) (hg.edge e))) ?_
  refine Ja rfl rfl (y_v (y_or rfl rfl rfl) (LM Value.bool (gok_not n E1 e))) ?_
  refine au 2 ?_
  refine cd (fun hc1=>?_) fun hc1=>?_
  ·
   simp only [bE] at hc1
   have hgk:=hc1
   refine au 8 ?_
   exact next (k+1,c,grL _ n m me mo mi ee ce lo li co ci) (by simp only; omega) ⟨(hm.Jp [1,2,3,4] 5 rfl),⟨me,mo,mi,ee,ce,lo,li,co,ci,by rw [gadds_next hi,hE1,Pl.gadd,LH (by rw [hgk]; simp)]; exact hg,rfl⟩,by simp only; omega,by simp only; omega,by simp only; omega⟩ ⟨nx k,rfl,rfl,rfl,rfl,rfl,trivial⟩
  ·
   simp only [bF] at hc1
   have hgk:=hc1
   refine au 3 ?_
   refine dw [0,3,6,9,12,2,16] hm fun w hw hm0 hh hm=>?_
   refine au 6 ?_
   refine ZI (kk:=e) rfl rfl rfl rfl rfl mg236 hm 2 rfl fun w hm=>?_
   obtain ⟨p_u1,cap_u1,g_u1,b_u1,R1,hl1,ha_u1,hin1,hout1⟩:=hg.ho.take e.1
   replace hm:=hin1 _ _ _ [_,_,_,_,_] [] (adB li++[]) hm
   have hol:=Pl.Yj E1 e.1
   have hil:=Pl.ins_le E1 e.2
   refine au 3 ?_
   refine JS (.pure 0 (.pure 1 (.pure 2 (.pure 3 (.pure 4 (.pure 5 (.pure 6 (.pure 7 (.pure 8 (.pure 9 (.pure 10 (.pure 11 (.pure 12 (.pure 13 (.pure 14 (.act 15 (.act 16 (.cut (.act 17 .done))))))))))))))))))) (fun j=>(j=g_u1∧b_u1.real=true)) mix (by kernel_rfl) hm fun w hw hm0 hh=>?_
   have hm:=hm0
   refine au 3 ?_
   refine Ja rfl rfl (Jh rfl sc237.h (hm0.nd 2 rfl (hm0.neR 2 0 rfl rfl rfl)) rfl) ?_
   refine au 1 ?_
   refine Ja rfl rfl (Jh rfl sc3.h (hm0.nd 1 rfl (hm0.neR 1 0 rfl rfl rfl)) rfl) ?_
   refine au 3 ?_
   refine Ja rfl rfl (Jh rfl sc237.h (hm0.nd 2 rfl (hm0.neR 2 0 rfl rfl rfl)) rfl) ?_
   refine au 1 ?_
   refine Ja rfl rfl (Jh rfl sc3.h (hm0.nd 1 rfl (hm0.neR 1 0 rfl rfl rfl)) rfl) ?_
   refine Ja rfl rfl (y_v (Vz rfl rfl rfl mg237 (hm0.nd 4 rfl (hm0.neR 4 0 rfl rfl rfl))) hl1) ?_
   refine au 1 ?_
   refine Ja rfl rfl (Jh rfl sc3.h (hm0.nd 1 rfl (hm0.neR 1 0 rfl rfl rfl)) rfl) ?_
   refine Jb (l:=[_]) rfl rfl sl134.h z3.h rfl rfl rfl rfl rfl rfl rfl hm hh fun m1 w hg_m1 hm hh=>?_
   refine Xm rfl rfl rfl rfl rfl rfl sl134.h sl134.h z3.h rfl rfl (Rd.JL (hm.get (k:=0) rfl)) rfl ha_u1 hm 1 rfl (by omega) (by omega) hh (fun hr=>.inr ⟨rfl,hr⟩) fun p_u1 cap_u1 g_u1 b_u1 w _ ha_u1 hm hh hg_u1=>?_
   refine au 1 ?_
   refine ZI rfl rfl rfl rfl rfl mg237 hm 5 rfl fun w hm=>?_
   obtain ⟨lo2,hs1,hback1,hok1⟩:=hout1 _ _ _ _ _ e.2 (Pl.outs (E1++[e])) (fun u=>Pl.outs_app E1 e.1 e.2 u) (ha_u1.to (by rw [Lh]; rfl))
   rw [hs1] at hm
   replace hm:=hback1 _ _ _ [_,_,_,_,_] [] (adB li++[]) (hm.Jp [1,2,3,4,5,6] 7 rfl)
   obtain ⟨p_u2,cap_u2,g_u2,b_u2,R2,hl2,ha_u2,hin2,hout2⟩:=hg.hi.take e.2
   replace hm:=hin2 _ _ _ [_,_,_,_,_] (adB lo2) [] hm
   refine au 3 ?_
   refine JS (.pure 0 (.pure 1 (.pure 2 (.pure 3 (.pure 4 (.pure 5 (.pure 6 (.pure 7 (.pure 8 (.pure 9 (.pure 10 (.pure 11 (.pure 12 (.pure 13 (.pure 14 (.act 15 (.act 16 (.cut (.act 17 .done))))))))))))))))))) (fun j=>(j=g_u2∧b_u2.real=true)) mix (by kernel_rfl) hm fun w hw hm0 hh=>?_
   have hm:=hm0
   refine au 3 ?_
   refine Ja rfl rfl (Jh rfl sc237.h (hm0.nd 2 rfl (hm0.neR 2 0 rfl rfl rfl)) rfl) ?_
   refine au 1 ?_
   refine Ja rfl rfl (Jh rfl sc3.h (hm0.nd 1 rfl (hm0.neR 1 0 rfl rfl rfl)) rfl) ?_
   refine au 3 ?_
   refine Ja rfl rfl (Jh rfl sc237.h (hm0.nd 2 rfl (hm0.neR 2 0 rfl rfl rfl)) rfl) ?_
   refine au 1 ?_
   refine Ja rfl rfl (Jh rfl sc3.h (hm0.nd 1 rfl (hm0.neR 1 0 rfl rfl rfl)) rfl) ?_
   refine Ja rfl rfl (y_v (Vz rfl rfl rfl mg237 (hm0.nd 5 rfl (hm0.neR 5 0 rfl rfl rfl))) hl2) ?_
   refine au 1 ?_
   refine Ja rfl rfl (Jh rfl sc3.h (hm0.nd 1 rfl (hm0.neR 1 0 rfl rfl rfl)) rfl) ?_
   refine Jb (l:=[_]) rfl rfl sl134.h z3.h rfl rfl rfl rfl rfl rfl rfl hm hh fun m2 w hg_m2 hm hh=>?_
   refine Xm rfl rfl rfl rfl rfl rfl sl134.h sl134.h z3.h rfl rfl (Rd.JL (hm.get (k:=0) rfl)) rfl ha_u2 hm 1 rfl (by omega) (by omega) hh (fun hr=>.inr ⟨rfl,hr⟩) fun p_u2 cap_u2 g_u2 b_u2 w _ ha_u2 hm hh hg_u2=>?_
   refine au 1 ?_
   refine ZI rfl rfl rfl rfl rfl mg237 hm 6 rfl fun w hm=>?_
   obtain ⟨li2,hs2,hback2,hok2⟩:=hout2 _ _ _ _ _ e.1 (Pl.ins (E1++[e])) (fun u=>Pl.ins_app E1 e.1 e.2 u) (ha_u2.to (by rw [Lh]; rfl))
   rw [hs2] at hm
   replace hm:=hback2 _ _ _ [_,_,_,_,_] (adB lo2) [] (hm.Jp [1,2,3,4,5,6] 7 rfl)
   have hgn:=hg.add hgk hok1 hok2
   refine au 13 ?_
   exact next (k+1,c+1,grL _ n m me mo mi _ _ lo2 li2 _ _) (by simp only; omega) ⟨(hm.Jp [1,2,3,4] 5 rfl),⟨me,mo,mi,_,_,lo2,li2,_,_,by rw [gadds_next hi,hE1,Pl.gadd,LI hgk]; exact hgn,rfl⟩,by simp only; omega,by simp only; omega,by simp only; omega⟩ ⟨nx k,rfl,rfl,rfl,rfl,rfl,trivial⟩
 ·
  simp only [dF] at hc0
  have hke:k=es.length:=by omega
  rw [hke,Lv] at hE1
  refine au 13 ?_
  exact ⟨c,grL _ n m me mo mi ee ce lo li co ci,rfl,⟨me,mo,mi,ee,ce,lo,li,co,ci,by rw [hE1]; exact hg,rfl⟩,hm⟩
theorem c_cloneI(p:Option Addr)(cap:Nat)(xs:List Int)(w0:World)(hx:Rd w0 p (xs.flatMap Cx.encI))(hlen:xs.length*8≤140737488355328):C Tryz.prog 275 [.slice p xs.length cap] w0 fun v w'=>∃ q c g b,v=.slice q xs.length c∧Acc 3 1 q xs.length c (xs.flatMap Cx.encI) g b∧Mem w0 w' No [(g,b)]:=by
 refine C_o Tryz.func275 fun κ _ Je Jc hm=>?_
 refine au 9 ?_
 refine Ja rfl rfl (y_snil rfl rfl sb134) ?_
 refine au 2 ?_
 refine cd (fun hc0=>?_) fun hc0=>?_
 ·
  obtain rfl:p=none:=by simpa using hc0
  obtain rfl:=nilI hx
  refine au 8 ?_
  exact ⟨none,0,0,.gap,rfl,.nil _ _ _ _,hm.JP⟩
 ·
  refine au 4 ?_
  refine Jb (l:=[]) rfl rfl sl134.h z3.h rfl rfl rfl rfl rfl rfl rfl hm trivial fun m1 w hg_m1 hm hh=>?_
  refine au 1 ?_
  refine Jy rfl rfl rfl rfl rfl rfl sl134.h sl134.h z3.h rfl (oneI xs) (hx.Jj hm.to) (lenI1 xs) (Acc.row rfl) hm 0 rfl (by omega) (by omega) fun p_s1 cap_s1 g_s1 b_s1 w ha_s1 hm=>?_
  refine au 5 ?_
  exact ⟨p_s1,cap_s1,g_s1,b_s1,by rw [LV],by simpa only [LV,L4] using ha_s1,hm⟩
theorem k_keys1(m1 mm:Nat)(es:EsG Int)(ck:Nat)(yl:Nat)(I:List (Nat×Blk)→List Int→World→Prop)(w0:World)(hwf:WfG es ck)
 (hown:∀ F ys w,I F ys w→(w.heap[m1]?=some (Blk.row 362 [.map (some mm)]).Jd∧w.heap[mm]?=some (mgB kvI es ck).Jd)∧Jr w F) (hstep:∀ Z Z' F ys w w',I (Z++F) ys w→Mem w w' (Mn (reals Z)) Z'→I (Z'++F) ys w')
 (hy:∀ F ys x w,I F ys w→ys.length<(es.map (·.1)).length→Yw Tryz.prog yl [.int .i64 x] w fun v w'=>v=.bool true∧I F (ys++[x]) w') (h0:I [] [] w0):C Tryz.prog 292 [.func (.yield yl) #[] #[],.pointer (some ⟨m1,0,none⟩)] w0 fun v w'=>v=.tuple ⟨[]⟩∧∃ F ys,ys.Perm (es.map (·.1))∧I F ys w':=by
 refine C_o Tryz.func292 fun κ _ Je Jc hm=>?_
 refine au 2 ?_
 refine Ja rfl rfl (Jh rfl sc362.h (Qo ((hm.to.same _ (Lb.1 (hown _ _ _ h0).1.1).1 id).trans (hown _ _ _ h0).1.1)) rfl) ?_
 refine a_rangeG rfl rfl rfl un362 (Qp hm.to (hown _ _ _ h0).1.2) hm fun it w hm=>?_
 refine au 3 ?_
 refine Jg (ι:=EsG Int) rfl (ks:=[0,5]) (.cons rfl (.cons rfl .nil)) (fun x=>[]) (fun x w=>I [(it,.obj (.mapIter (some mm) ck ⟨x.map (·.2.2)⟩ ck))] (x.map (·.1)) w∧Vis es x) (fun x=>es.length-x.length) [] (⟨hstep [] [_] [] _ _ _ h0 hm.toMn,Vis.nil es⟩) trivial (fun x w hM=>?_)
 obtain ⟨hI,hv⟩:=hM
 have hm:=(hown _ _ _ hI).2.start
 refine au 1 ?_
 rcases nextG (P:=Tryz.prog) (hm.get (k:=0) rfl) (hown _ _ _ hI).1.2 hwf with ⟨hall,hrun⟩ | ⟨e,he,hnew,w1,hE1,hw1,hrun⟩
 ·
  refine au 1 ?_
  refine a_nextF rfl rfl rfl hrun ?_
  refine au 9 ?_
  refine toN (fin Jc rfl .nil .nil ?_)
  exact ⟨rfl,_,_,(hv.done hwf.borns hall).map _,hI⟩
 ·
  obtain ⟨hv2,hvl⟩:=hv.next he hnew
  refine au 1 ?_
  refine a_nextT rfl rfl rfl hw1 hE1 hrun hm 0 rfl fun w hm=>?_
  have hI2:=hstep [(_,_)] [(_,_)] [] _ _ _ hI hm
  refine au 10 ?_
  refine Ja rfl rfl (y_entryG rfl (hm.nt 0 rfl) (Qo (hown _ _ _ hI2).1.2) he hwf) ?_
  refine au 8 ?_
  refine XM rfl rfl rfl rfl (hy _ _ e.1 _ hI2 (by rw [Lj,Lj]; omega)) fun v w hR=>?_
  refine ⟨trivial,?_⟩
  obtain ⟨rfl,hI4⟩:=hR
  rw [show x.map (·.2.2)++[e.2.2]=(x++[e]).map (·.2.2) by rw [Lx]; rfl] at hI4
  refine au 6 ?_
  refine next (x++[e]) (by rw [Lc,LG]; omega) ⟨by rw [show (x++[e]).map (·.1)=x.map (·.1)++[e.1] by rw [Lx]; rfl]; exact hI4,hv2⟩ ⟨rfl,rfl,trivial⟩
theorem gives_keys(m1 mm:Nat)(es:EsG Int)(ck:Nat)(hwf:WfG es ck):Gives Tryz.prog 292 [.pointer (some ⟨m1,0,none⟩)] (es.map (·.1)) fun w=>w.heap[m1]?=some (Blk.row 362 [.map (some mm)]).Jd∧w.heap[mm]?=some (mgB kvI es ck).Jd:=fun yl I w0 h1 h2 h3 h4=>k_keys1 m1 mm es ck yl I w0 hwf h1 h2 h3 h4
theorem k_keys(mm:Nat)(w0:World):C Tryz.prog 276 [.map (some mm)] w0 fun v w'=>∃ m1,v=.func (.func 292) #[] ⟨[.pointer (some ⟨m1,0,none⟩)]⟩∧Mem w0 w' No [(m1,Blk.row 362 [.map (some mm)])]:=by
 refine C_o Tryz.func276 fun κ _ Je Jc hm=>?_
 refine au 2 ?_
 refine bT hm fun m1 w hm=>?_
 refine au 11 ?_
 exact ⟨_,rfl,hm⟩
theorem mg362:MK Tryz.prog 362 kvI (.bool false):=.i (by kernel_rfl)
theorem g_reach(n m:Nat)(E:List (Int×Int))(Z:List (Nat×Blk))(w0:World)(hZ:Jr w0 Z)(hz:QP 239 3 n E m Z)(hE:E.length≤1000000)(a:Int):C Tryz.prog 244 [.pointer (some ⟨m,0,none⟩),.int .i64 a] w0 fun v w'=>∃ p k cap g b xs,v=.slice p k cap∧Acc 3 1 p k cap ((Pl.srt xs).flatMap Cx.encI) g b∧xs.length≤1000000∧(∀ u,u∈xs↔Pl.Path E a u)∧Mem w0 w' No [(g,b)]:=by
 have hle:n≤1048576:=by obtain ⟨_,_,_,_,_,_,_,_,_,hg,_⟩:=hz; exact hg.le
 obtain ⟨me,mo,mi,ee,ce,lo,li,co,ci,hg,rfl⟩:=hz
 obtain ⟨q,cq,hq1,hq2⟩:=hg.ho.rd a (w:=w0) (A:=[_,_,_,_]) (Y:=[]) (Z:=adB li++[]) hZ
 have hol:=Pl.Yj E a
 have hmu0:=Pl.rmu_start (a:=a) hE
 refine C_o Tryz.func244 fun κ _ Je Jc hm=>?_
 refine au 5 ?_
 refine HW_scope rfl ?_
 refine au 12 ?_
 refine a_makeG kvI rfl rfl hm trivial fun sn w hg_sn hm hh=>?_
 refine au 8 ?_
 refine Ja rfl rfl (Jh rfl sc237.h (Qo ((hm.to.same _ (Lb.1 (hZ.get (k:=0) rfl)).1 id).trans (hZ.get (k:=0) rfl))) rfl) ?_
 refine au 1 ?_
 refine Ja rfl rfl (y_v (Vz rfl rfl rfl mg237 (Qo (Qp hm.to (hZ.get (k:=2) rfl)))) hq1) ?_
 refine cT rfl rfl rfl (c_cloneI q cq _ _ (hq2.Jj hm.to) (by omega)) fun v w hR=>?_
 obtain ⟨p_st,cap_st,g_st,b_st,rfl,ha_st,hmc⟩:=hR
 have hg_st:b_st.real=true→_:=fun hr=>(hmc.fresh _ Lo hr).resolve_left id
 replace hm:=hm.Jt hmc
 refine au 4 ?_
 refine HW_label rfl ?_
 refine au 3 ?_
 refine Jg (ι:=EsG Int×Nat×Ow×List Int) rfl (ks:=[0,4,5]) (.cons rfl (.cons rfl (.cons rfl .nil))) (fun x=>[(6,.slice x.2.2.1.p x.2.2.1.n x.2.2.1.cap)]) (fun x w=>Mem w0 w No [(x.2.2.1.g,x.2.2.1.b),(sn,mgB kvI x.1 x.2.1)]∧Acc 3 1 x.2.2.1.p x.2.2.1.n x.2.2.1.cap (x.2.2.2.flatMap Cx.encI) x.2.2.1.g x.2.2.1.b∧SetM x.1 x.2.1∧Pl.RI E a (x.1.map (·.1)) x.2.2.2∧Pl.rmu E (x.1.map (·.1)) x.2.2.2≤1000002000000) (fun x=>Pl.rmu E (x.1.map (·.1)) x.2.2.2) ([],0,⟨p_st,_,cap_st,g_st,b_st⟩,Pl.outs E a) (⟨(hm.pick [0,1] rfl),ha_st,SetM.nil,Pl.RI.start E a,hmu0⟩) ⟨rfl,trivial⟩ (fun x w hM=>?_)
 obtain ⟨es,ck,⟨p_st,n_st,cap_st,g_st,b_st⟩,stk⟩:=x
 obtain ⟨hm,ha_st,hsn,hri,hmu⟩:=hM
 simp only at hm ha_st hsn hri hmu ⊢
 obtain rfl:=ha_st.QB Jq (by decide)
 have hsl:=Pl.rmu_stk E (es.map (·.1)) stk
 refine au 8 ?_
 refine cd (fun hc1=>?_) fun hc1=>?_
 ·
  simp only [dT] at hc1
  obtain ⟨wv,hi⟩:∃ y_,stk[stk.length-1]?=some y_:=⟨_,La (by omega)⟩
  obtain ⟨qb,qo,rfl⟩:=(ha_st.rd hm 0 rfl).atI Jq (by decide) hi
  have hst:stk=stk.take (stk.length-1)++[wv]:=by have h9:=QG hi; rw [Nat.sub_add_cancel (by omega),Lv] at h9; exact h9
  have hri2:=hri
  rw [hst] at hri2
  have hmlt:=Pl.rmu_skip (E:=E) (w:=wv) (seen:=es.map (·.1)) (stk:=stk.take (stk.length-1))
  rw [← hst] at hmlt
  refine au 8 ?_
  refine Ja rfl rfl (y_v (QR rfl rfl (Ql (by omega) (by omega))) (LM (Value.int .i64) (by omega:(stk.length:Int)-1=((stk.length-1:Nat):Int)))) ?_
  refine au 1 ?_
  refine Ja rfl rfl (J3 rfl sc3.h (ha_st.rd hm 0 rfl).nt Jq hi rfl) ?_
  refine au 8 ?_
  refine Ja rfl rfl (y_v (QR rfl rfl (Ql (by omega) (by omega))) (LM (Value.int .i64) (by omega:(stk.length:Int)-1=((stk.length-1:Nat):Int)))) ?_
  refine Ja rfl rfl (y_v (JE (ln:=0) (hn:=(stk.length-1)) rfl sl134.h rfl ⟨_,rfl⟩ (by omega) (by have:=ha_st.le; omega) (fun _ ad e=>by cases e; rfl)) (by rw [XW (fun a e=>by cases e; rfl)]; rfl:Value.slice (slp (some ⟨qb,qo,none⟩) cap_st 0 1) (stk.length-1-0) (cap_st-0)=.slice (some ⟨qb,qo,none⟩) (stk.length-1) cap_st)) ?_
  replace ha_st:=(ha_st.head (i:=stk.length-1) (by omega)).to (take_fm Jq _ _)
  refine au 8 ?_
  refine Ja rfl rfl (y_v (Vz (kk:=wv) rfl rfl rfl mg362 (hm.nt 1 rfl)) (hsn.get wv)) ?_
  refine au 2 ?_
  refine cd (fun hc2=>?_) fun hc2=>?_
  ·
   simp only [dT] at hc2
   have hwv:=hc2
   refine au 3 ?_
   exact next (es,ck,⟨some ⟨qb,qo,none⟩,_,cap_st,g_st,b_st⟩,stk.take (stk.length-1)) hmlt ⟨(hm.pick [0,1] rfl),ha_st,hsn,hri2.skip hwv,by simp only; omega⟩ ⟨rfl,rfl,rfl,rfl,trivial⟩
  ·
   simp only [dF] at hc2
   have hwv:=hc2
   obtain ⟨q2,cq2,hq3,hq4⟩:=hg.ho.rd wv (w:=w0) (A:=[_,_,_,_]) (Y:=[]) (Z:=adB li++[]) hZ
   have hol2:=Pl.Yj E wv
   have hmp:=Pl.rmu_push hri2 hwv
   rw [← hst] at hmp
   refine au 6 ?_
   refine ZI (kk:=wv) rfl rfl rfl rfl rfl mg362 hm 1 rfl fun w hm=>?_
   refine au 7 ?_
   refine Ja rfl rfl (Jh rfl sc237.h (Qo ((hm.to.same _ (Lb.1 (hZ.get (k:=0) rfl)).1 id).trans (hZ.get (k:=0) rfl))) rfl) ?_
   refine au 1 ?_
   refine Ja rfl rfl (y_v (Vz rfl rfl rfl mg237 (Qo (Qp hm.to (hZ.get (k:=2) rfl)))) hq3) ?_
   refine Jy rfl rfl rfl rfl rfl rfl sl134.h sl134.h z3.h rfl (oneI _) (hq4.Jj hm.to) (lenI1 _) ha_st hm 0 rfl (by omega) (by omega) fun p_st cap_st g_st b_st w ha_st hm=>?_
   refine au 3 ?_
   exact next (VS es ck wv (.bool true),ckG es ck wv,⟨p_st,_,cap_st,g_st,b_st⟩,stk.take (stk.length-1)++Pl.outs E wv) (by simp only; rw [hsn.keys hwv]; exact hmp) ⟨(hm.pick [0,1] rfl),ha_st.to (by rw [Lh]),hsn.add hwv,by rw [hsn.keys hwv]; exact hri2.push,by simp only; rw [hsn.keys hwv]; omega⟩ ⟨rfl,rfl,rfl,rfl,trivial⟩
 ·
  simp only [dF] at hc1
  obtain rfl:=Ll.1 (by omega:stk.length=0)
  have hdn:=hri.done
  have hel:(es.map (·.1)).length≤1000000:=by have:=Pl.VE hsn.wf.keys (fun x hx=>(hri.p1 x hx).target); simp only [Lj] at this ⊢; omega
  refine au 8 ?_
  refine cT rfl rfl rfl (k_keys sn _) fun v w hR=>?_
  obtain ⟨m1,rfl,hmc⟩:=hR
  replace hm:=hm.Jt hmc
  refine cT rfl rfl rfl (v_sorted _ _ (es.map (·.1)) _ _ go292 (gives_keys m1 sn es ck hsn.wf) hel (fun w9 hx9=>⟨Qp hx9 (hm.get (k:=0) rfl),Qp hx9 (hm.get (k:=2) rfl)⟩)) fun v w hR=>?_
  obtain ⟨p_u,n_u,cap_u,g_u,b_u,rfl,ha_u,hmc⟩:=hR
  replace hm:=hm.Jt hmc
  refine au 5 ?_
  exact ⟨_,_,_,_,_,_,rfl,ha_u,hel,hdn,(hm.pick [0] rfl)⟩
theorem c_cont(p:Option Addr)(cap:Nat)(xs:List Int)(x:Int)(w0:World)(hr:Rd w0 p (xs.flatMap Cx.encI))(hl:xs.length≤1000000000):C Tryz.prog 100 [.slice p xs.length cap,.int .i64 x] w0 fun v w'=>v=.bool (decide (x∈xs))∧Ext No w0 w':=contI layK p cap xs x w0 hr hl
theorem without_step{u a:Int×Int}{ss:List Int}{A:Prop}(h:a.1∉ss∧a.2∉ss):(A∧u.1∉ss∧u.2∉ss)∨u=a↔(A∨u=a)∧u.1∉ss∧u.2∉ss:=by
 constructor
 · rintro (⟨h1,h2⟩ | rfl)
   · exact ⟨.inl h1,h2⟩
   · exact ⟨.inr rfl,h⟩
 · rintro ⟨h1 | rfl,h2⟩
   · exact .inl ⟨h1,h2⟩
   · exact .inr rfl
theorem without_skip{u a:Int×Int}{ss:List Int}{A:Prop}(h:a.1∉ss→a.2∈ss):(A∧u.1∉ss∧u.2∉ss)↔(A∨u=a)∧u.1∉ss∧u.2∉ss:=by
 constructor
 · rintro ⟨h1,h2⟩; exact ⟨.inl h1,h2⟩
 · rintro ⟨h1 | rfl,h2⟩
   · exact ⟨h1,h2⟩
   · exact absurd (h h2.1) h2.2
theorem g_without(n m:Nat)(E:List (Int×Int))(Z:List (Nat×Blk))(w0:World)(hZ:Jr w0 Z)(hz:QP 239 3 n E m Z)(hE:E.length≤1000000)(sk:Option Addr)(csk:Nat)(ss:List Int)(hs:Rd w0 sk (ss.flatMap Cx.encI))(hsl:ss.length≤1000000):C Tryz.prog 243 [.pointer (some ⟨m,0,none⟩),.slice sk ss.length csk] w0 fun v w'=>∃ E' mh Zh,v=.pointer (some ⟨mh,0,none⟩)∧QP 239 3 n E' mh Zh∧E'.length≤1000000∧(∀ e,e∈E'↔e∈E∧e.1∉ss∧e.2∉ss)∧Mem w0 w' No Zh:=by
 have hle:n≤1048576:=by obtain ⟨_,_,_,_,_,_,_,_,_,hg,_⟩:=hz; exact hg.le
 obtain ⟨me,mo,mi,ee,ce,lo,li,co,ci,hg,rfl⟩:=hz
 have hek:∀ e,e∈ee.map (·.1)↔e∈E:=fun e=>by rw [← Ym,hg.he]; by_cases h:e∈E <;> simp [h]
 have heln:ee.length≤1000000:=by have:=Pl.VE hg.we.keys fun x hx=>(hek x).1 hx; rw [Lj] at this; omega
 refine C_o Tryz.func243 fun κ _ Je Jc hm=>?_
 refine au 20 ?_
 refine Ja rfl rfl (Jh rfl sc3.h (Qo ((hm.to.same _ (Lb.1 (hZ.get (k:=0) rfl)).1 id).trans (hZ.get (k:=0) rfl))) rfl) ?_
 refine cT rfl rfl rfl (g_new n _ hle) fun v w hR=>?_
 obtain ⟨mh,Zh,rfl,hzh,hmc⟩:=hR
 replace hm:=hm.XR hmc
 refine au 9 ?_
 refine Ja rfl rfl (Jh rfl sc236.h (Qo ((hm.to.same _ (Lb.1 (hZ.get (k:=0) rfl)).1 id).trans (hZ.get (k:=0) rfl))) rfl) ?_
 refine a_rangeG rfl rfl rfl un236 (Qp hm.to (hZ.get (k:=1) rfl)) hm fun it w hm=>?_
 refine au 3 ?_
 refine Jg (ι:=EsG (Int×Int)×List (Int×Int)×List (Nat×Blk)) rfl (ks:=[1,4,5,18]) (.cons rfl (.cons rfl (.cons rfl (.cons rfl .nil)))) (fun x=>[]) (fun x w=>Mem w0 w No ((it,.obj (.mapIter (some me) ce ⟨x.1.map (·.2.2)⟩ ce))::x.2.2)∧Vis ee x.1∧QP 239 3 n x.2.1 mh x.2.2∧(∀ e,e∈x.2.1↔e∈x.1.map (·.1)∧e.1∉ss∧e.2∉ss)∧x.2.1.length≤x.1.length) (fun x=>ee.length-x.1.length) ([],[],Zh) (⟨hm,Vis.nil ee,hzh,by simp,LP _⟩) trivial (fun x w hM=>?_)
 obtain ⟨l,E1,Z1⟩:=x
 obtain ⟨hm,hv,hz1,hch,hel⟩:=hM
 simp only at hm hv hz1 hch hel ⊢
 refine au 1 ?_
 rcases nextG (P:=Tryz.prog) (hm.get (k:=0) rfl) (Qp hm.to (hZ.get (k:=1) rfl)) hg.we with ⟨hall,hrun⟩ | ⟨e,he,hnew,w1,hE1,hw1,hrun⟩
 ·
  have hpm:=hv.done hg.we.borns hall
  refine au 1 ?_
  refine a_nextF rfl rfl rfl hrun ?_
  refine au 18 ?_
  exact ⟨E1,mh,Z1,rfl,hz1,by have:=hpm.length_eq; omega,fun u=>by rw [hch,(hpm.map _).mem_iff,hek],(hm.Jp [] 1 rfl)⟩
 ·
  obtain ⟨hv2,hvl⟩:=hv.next he hnew
  have heE:=(hek e.1).1 (Ln.2 ⟨e,he,rfl⟩)
  have hoke:=hg.ok _ heE
  refine au 1 ?_
  refine a_nextT rfl rfl rfl hw1 hE1 hrun hm 0 rfl fun w hm=>?_
  refine au 10 ?_
  refine Ja rfl rfl (y_entryG rfl (hm.nt 0 rfl) (Qo (Qp hm.to (hZ.get (k:=1) rfl))) he hg.we) ?_
  refine au 1 ?_
  refine aT hm fun ed w hm=>?_
  refine st hm 0 fun w hm=>?_
  refine au 7 ?_
  refine cA rfl rfl rfl (c_cont sk csk ss e.1.1 _ (hs.Jj hm.to) (by omega)) hm fun w hm=>?_
  refine Ja rfl rfl (y_not rfl) ?_
  refine Ja rfl rfl (Jx rfl) ?_
  refine JK rfl rfl rfl (fun hc=>(Jx rfl)) ?_
  refine JK rfl rfl rfl (fun hc=>(Jv rfl fo201_1.h)) ?_
  refine JK rfl rfl rfl (fun hc=>(Jh (gx hc rfl) sc3.h (hm.nt 0 rfl) rfl)) ?_
  refine J1 rfl rfl rfl (fun hc=>(J8 (gx hc rfl) (J8 (gx hc rfl) QL))) go100 (fun hc=>(c_cont sk csk ss e.1.2 _ (hs.Jj hm.to) (by omega))) trivial fun w hE hh=>?_
  replace hm:=hm.ext hE
  refine au 4 ?_
  refine cd (fun hc2=>?_) fun hc2=>?_
  ·
   simp only [bA,bE,dF] at hc2
   refine au 3 ?_
   refine Jb (l:=[_,_]) rfl rfl sl243.h z201.h rfl rfl rfl rfl rfl rfl rfl hm trivial fun m3 w hg_m3 hm hh=>?_
   refine cT rfl rfl rfl (g_add n mh E1 Z1 _ (Jr.right (A:=[_,_,_]) hm.Jz) hz1 (by omega) _ _ [e.1] (Rd.JL (hm.get (k:=0) rfl)) (fun _ ad h=>by cases h; exact Mem.notT (A:=[_,_,_]) hm (k:=0) rfl) (by simp)) fun v w hR=>?_
   obtain ⟨c9,Z9,rfl,hz9,hmc⟩:=hR
   replace hm:=Mem.JQ (A:=[_,_,_]) hm hmc
   refine au 2 ?_
   exact next (l++[e],Pl.gadds n E1 [e.1],Z9) (by simp only [Lc,LG]; omega) ⟨by simp only; rw [Lx]; exact (hm.Jp [2] 3 rfl),hv2,hz9,fun u=>by simp only; rw [show Pl.gadds n E1 [e.1]=Pl.gadd n E1 e.1 from rfl,Pl.gadd_mem hoke,hch,Lx,Ls,List.map_singleton,Lf]; exact without_step hc2,by have:=gadds_le n [e.1] E1; simp only [Lc,LG] at *; omega⟩ ⟨rfl,rfl,rfl,rfl,trivial⟩
  ·
   simp only [Bool.and_eq_false_imp,bE,bF,dF,dT] at hc2
   refine au 2 ?_
   exact next (l++[e],E1,Z1) (by simp only [Lc,LG]; omega) ⟨by simp only; rw [Lx]; exact (hm.Jp [1] 2 rfl),hv2,hz1,fun u=>by simp only; rw [hch,Lx,Ls,List.map_singleton,Lf]; exact without_skip hc2,by simp only [Lc,LG] at *; omega⟩ ⟨rfl,rfl,rfl,rfl,trivial⟩
theorem ovl_iff(a b c e:Int):(Pl.overlap a b c e).isSome=true↔max a c<min (a+b) (c+e):=by
 unfold Pl.overlap Pl.btw
 split
 · exact ⟨fun h=>by simp at h,fun h=>by omega⟩
 · exact ⟨fun _=>by omega,fun _=>rfl⟩
theorem asc_pw{es:List (Int×Int×Int)}(h:Pl.asc3 es):es.Pairwise fun x y=>Pl.Xy x≤y.1:=by
 rw [List.pairwise_iff_getElem]
 intro i j hi hj hij
 exact h i j _ _ hij (La hi) (La hj)
theorem tw_mem{a b:Int}(hb:0<b):∀ {l:List (Int×Int×Int)},l.Pairwise (fun x y=>Pl.Xy x≤y.1)→(∀ x∈l,0<x.2.1)→(∀ x∈l,a<Pl.Xy x)→∀ u,u∈l.takeWhile (Pl.ovl3 a b)↔u∈l∧Pl.ovl3 a b u=true
 | [],_,_,_,u=>by simp
 | x::r,hp,h0,h1,u=>by
  rw [List.pairwise_cons] at hp
  have ih:=tw_mem hb (l:=r) hp.2 (fun y hy=>h0 y (LX _ hy)) (fun y hy=>h1 y (LX _ hy)) u
  by_cases hx:Pl.ovl3 a b x=true
  · rw [List.takeWhile_cons,LI hx,LR,ih,LR]
    constructor
    · rintro (rfl | h)
      · exact ⟨.inl rfl,hx⟩
      · exact ⟨.inr h.1,h.2⟩
    · rintro ⟨rfl | h,h2⟩
      · exact .inl rfl
      · exact .inr ⟨h,h2⟩
  · rw [List.takeWhile_cons,LH hx]
    refine ⟨fun h=>by simp at h,fun h=>absurd h.2 ?_⟩
    have hx1:=h1 x (Lo ..)
    have hx0:=h0 x (Lo ..)
    unfold Pl.ovl3 at hx ⊢
    rw [ovl_iff] at hx ⊢
    unfold Pl.Xy at hx1
    rcases LR.1 h.1 with rfl | hr
    · exact hx
    · have:=hp.1 u hr
      unfold Pl.Xy at this
      omega
theorem hits_mem{a b:Int}(hb:0<b):∀ {l:List (Int×Int×Int)},l.Pairwise (fun x y=>Pl.Xy x≤y.1)→(∀ x∈l,0<x.2.1)→∀ u,u∈Pl.hits l a b↔u∈l∧Pl.ovl3 a b u=true
 | [],_,_,u=>by simp [Pl.hits]
 | x::r,hp,h0,u=>by
  have hp':=List.pairwise_cons.1 hp
  unfold Pl.hits
  by_cases hx:Pl.Xy x≤a
  · rw [List.dropWhile_cons,LI (by simpa using hx)]
    have ih:=hits_mem (a:=a) hb (l:=r) hp'.2 (fun y hy=>h0 y (LX _ hy)) u
    unfold Pl.hits at ih
    rw [ih,LR]
    refine ⟨fun h=>⟨.inr h.1,h.2⟩,fun h=>⟨h.1.resolve_left fun e=>?_,h.2⟩⟩
    have h2:=h.2
    subst e
    unfold Pl.ovl3 at h2
    rw [ovl_iff] at h2
    unfold Pl.Xy at hx
    omega
  · rw [List.dropWhile_cons,LH (by simpa using hx)]
    refine tw_mem hb hp h0 (fun y hy=>?_) u
    rcases LR.1 hy with rfl | hr
    · omega
    · have:=hp'.1 y hr
      have:=h0 y hy
      unfold Pl.Xy at *
      omega
end Go.Proofs.YtaehgpeenaomcaaGreat
namespace Go.Pl
open Go Go.Cx Go.Proofs.YtaehgpeenaomcaaGreat
def cf(a b:CmdV):Bool:=decide (a.k=1)&&(Pl.overlap b.to (Pl.clen b.cm) a.fr a.ln).isSome
def CfE(cs:List CmdV)(k:Nat)(e:Int×Int):Prop:=∃ (i j:Nat) (a b:CmdV),e=((i:Int),(j:Int))∧i<k∧i≠j∧cs[i]?=some a∧cs[j]?=some b∧Pl.cf a b=true
end Go.Pl
namespace Go.Proofs.YtaehgpeenaomcaaGreat
open Go Go.Cx
theorem ents_iff{es:List (Int×Int)}{x:Int×Int×Int}:x∈Pl.ents es↔∃ j:Nat,es[j]?=some (x.1,x.2.1)∧x.2.2=(j:Int):=by
 unfold Pl.ents
 rw [List.mem_mapIdx]
 constructor
 · rintro ⟨i,h,rfl⟩; exact ⟨i,by rw [La h],rfl⟩
 · rintro ⟨j,h,h2⟩
   obtain ⟨hj,he⟩:=Le.1 h
   exact ⟨j,hj,by rw [he,← h2]⟩
theorem hit_pos{cs:List CmdV}{ys:List (Int×Int×Int)}(hyp:ys.Perm (Pl.ents (cs.map Pl.tgE)))(hasc:Pl.asc3 ys)(hok:∀ x∈ys,Pl.ZB x∧0<x.2.1){c:CmdV}(hk:c.k=1)(hln:0<c.ln)(z:Int) :
 z∈(Pl.hits ys c.fr c.ln).map (fun x=>x.2.2)↔∃ (j:Nat) (d:CmdV),z=(j:Int)∧cs[j]?=some d∧Pl.cf c d=true:=by
 simp only [Ln,hits_mem hln (asc_pw hasc) (fun x hx=>(hok x hx).2),hyp.mem_iff,ents_iff,Lt,Option.map_eq_some_iff]
 unfold Pl.cf Pl.ovl3
 rw [LQ hk]
 simp only [Bool.true_and]
 constructor
 · rintro ⟨x,⟨⟨j,⟨d,hd,he⟩,hj⟩,ho⟩,rfl⟩
   unfold Pl.tgE at he
   simp only [Prod.mk.injEq] at he
   exact ⟨j,d,hj,hd,by rw [he.1,he.2]; exact ho⟩
 · rintro ⟨j,d,rfl,hd,ho⟩
   exact ⟨(d.to,Pl.clen d.cm,(j:Int)),⟨⟨j,⟨d,hd,rfl⟩,rfl⟩,ho⟩,rfl⟩
theorem q_targets(q:Option Addr)(cq:Nat)(cs:List CmdV)(w0:World)(hq:Rd w0 q (cs.flatMap JM))(hl:cs.length≤40)(hck:∀ c∈cs,Pl.ccheck c.cm=0)(hd:(cs.map Pl.tgE).Pairwise Pl.dj2):C Tryz.prog 124 [.slice q cs.length cq] w0 fun v w'=>∃ (mi:Nat) (p:Option Addr) (n c g:Nat) (b:Blk) (ys:List (Int×Int×Int)),v=.pointer (some ⟨mi,0,none⟩)∧Acc 299 3 p n c (ys.flatMap encN) g b∧ys.Perm (Pl.ents (cs.map Pl.tgE))∧Pl.asc3 ys∧(∀ x∈ys,Pl.ZB x∧0<x.2.1)∧Mem w0 w' No [(mi,.row 297 [.slice p n c]),(g,b)]:=by
 have hes:∀ e∈cs.map Pl.tgE,Pl.okE2 e:=fun e he=>by
  obtain ⟨c,hc,rfl⟩:=Ln.1 he
  have h1:=Pl.Jl (hck c hc)
  have h2:c.cm.to=c.to:=rfl
  simp only [Pl.okE2,Pl.tgE]
  omega
 refine C_o Tryz.func124 fun κ _ Je Jc hm=>?_
 refine au 8 ?_
 replace hm:=hm.JP
 have ha_o:=Acc.nil 32 2 none 0
 refine au 11 ?_
 refine Jg (ι:=Nat×Ow) rfl (ks:=[2,6,7]) (.cons rfl (.cons rfl (.cons rfl .nil))) (fun x=>[(8,.int .i64 (x.1:Int)),(3,.slice x.2.p x.2.n x.2.cap)]) (fun x w=>Mem w0 w No [(x.2.g,x.2.b)]∧Acc 32 2 x.2.p x.2.n x.2.cap (((cs.take x.1).map Pl.tgE).flatMap Q9) x.2.g x.2.b∧x.1≤cs.length∧x.2.n=x.1) (fun x=>cs.length-x.1) (0,⟨none,0,0,0,.gap⟩) (⟨hm,ha_o,LL _,rfl⟩) ⟨rfl,rfl,trivial⟩ (fun x w hM=>?_)
 obtain ⟨k,p_o,n_o,cap_o,g_o,b_o⟩:=x
 obtain ⟨hm,ha_o,hk,hn⟩:=hM
 simp only at hm ha_o hk hn ⊢
 refine au 6 ?_
 refine cd (fun hc0=>?_) fun hc0=>?_
 ·
  simp only [dT] at hc0
  obtain ⟨c,hi⟩:∃ y_,cs[k]?=some y_:=⟨_,La (by omega)⟩
  obtain ⟨qb,qo,rfl⟩:=hq.atI Jf (by decide) hi
  refine au 7 ?_
  refine Ja rfl rfl (JU rfl ag60.h (hq.Jj hm.to).nt Jf hi) ?_
  refine aT hm fun m1 w hm=>?_
  refine st hm 0 fun w hm=>?_
  refine au 5 ?_
  refine cA rfl rfl rfl (Vd c.cm c.d.p c.d.cap _) hm fun w hm=>?_
  refine Jb (l:=[_,_]) rfl rfl sl240.h z32.h rfl rfl rfl rfl rfl rfl rfl hm trivial fun m2 w hg_m2 hm hh=>?_
  refine Jy rfl rfl rfl rfl rfl rfl sl240.h sl240.h z32.h rfl rfl (Rd.JL (hm.get (k:=0) rfl)) rfl ha_o hm 2 rfl (by omega) (by omega) fun p_o cap_o g_o b_o w ha_o hm=>?_
  refine au 8 ?_
  exact next (k+1,⟨p_o,_,cap_o,g_o,b_o⟩) (by simp only; omega) ⟨(hm.pick [2] rfl),ha_o.to (tgE_next hi),by simp only; omega,by simp only; omega⟩ ⟨nx k,rfl,rfl,rfl,rfl,trivial⟩
 ·
  simp only [dF] at hc0
  have hke:k=cs.length:=by omega
  rw [hke,Lv] at ha_o
  obtain rfl:=ha_o.QB QM (by decide)
  refine au 8 ?_
  refine cT rfl rfl rfl (i_new p_o cap_o (cs.map Pl.tgE) _ (ha_o.rd hm 0 rfl) (by rw [Lj]; omega) hes hd) fun v w hR=>?_
  obtain ⟨mi,p_u,n_u,c_u,g_u,b_u,ys,rfl,ha_u,hyp,hasc,hok3,hmc⟩:=hR
  replace hm:=hm.Jt hmc
  refine au 5 ?_
  exact ⟨mi,p_u,_,c_u,g_u,b_u,ys,rfl,ha_u,hyp,hasc,hok3,(hm.pick [0,1] rfl)⟩
theorem dj_to{c:CmdV}(hc:Pl.ccheck c.cm=0)(hk:c.k=1):0≤c.fr∧0<c.ln∧c.fr+c.ln≤4611686018427387903:=by
 have h:=Pl.Jl hc
 have h1:c.cm.k=c.k:=rfl
 have h2:c.cm.fr=c.fr:=rfl
 have h3:c.cm.ln=c.ln:=rfl
 omega
theorem cfe_zero(cs:List CmdV)(e:Int×Int):¬ Pl.CfE cs 0 e:=fun ⟨_,_,_,_,_,h,_⟩=>absurd h (Nat.not_lt_zero _)
theorem cfe_lit{cs:List CmdV}{k:Nat}{c:CmdV}(hi:cs[k]?=some c)(hk:c.k≠1)(e:Int×Int):Pl.CfE cs (k+1) e↔Pl.CfE cs k e:=by
 constructor
 · rintro ⟨i,j,a,b,rfl,h1,h2,h3,h4,h5⟩
   refine ⟨i,j,a,b,rfl,?_,h2,h3,h4,h5⟩
   rcases L7 i k with h | h
   · exact h
   · obtain rfl:i=k:=by omega
     rw [hi] at h3; cases h3
     unfold Pl.cf at h5
     simp [hk] at h5
 · rintro ⟨i,j,a,b,rfl,h1,h⟩; exact ⟨i,j,a,b,rfl,by omega,h⟩
theorem cfe_copy{cs:List CmdV}{k:Nat}{c:CmdV}(hi:cs[k]?=some c)(e:Int×Int):Pl.CfE cs (k+1) e↔Pl.CfE cs k e∨∃ (z:Int),(∃ (j:Nat) (d:CmdV),z=(j:Int)∧cs[j]?=some d∧Pl.cf c d=true)∧e=((k:Int),z)∧(k:Int)≠z:=by
 constructor
 · rintro ⟨i,j,a,b,rfl,h1,h2,h3,h4,h5⟩
   rcases L7 i k with h | h
   · exact .inl ⟨i,j,a,b,rfl,h,h2,h3,h4,h5⟩
   · obtain rfl:i=k:=by omega
     rw [hi] at h3; cases h3
     exact .inr ⟨j,⟨j,b,rfl,h4,h5⟩,rfl,by omega⟩
 · rintro (⟨i,j,a,b,rfl,h1,h⟩ | ⟨z,⟨j,d,rfl,h1,h2⟩,rfl,h3⟩)
   · exact ⟨i,j,a,b,rfl,by omega,h⟩
   · exact ⟨k,j,c,d,rfl,by omega,by omega,hi,h1,h2⟩
theorem gadd_any{n:Nat}{E:List (Int×Int)}{i j:Int}(h:0≤i∧i<n∧0≤j∧j<n)(e:Int×Int):e∈Pl.gadd n E (i,j)↔e∈E∨(e=(i,j)∧i≠j):=by
 by_cases hij:i=j
 · unfold Pl.gadd
   rw [LH (by simp [Pl.gok,hij])]
   simp [hij]
 · rw [Pl.gadd_mem (a:=(i,j)) ⟨h.1,h.2.1,h.2.2.1,h.2.2.2,hij⟩]
   simp [hij]
theorem cfe_step{A:Prop}{e:Int×Int}{k x:Int}{l:List Int}:((A∨∃ z,z∈l∧e=(k,z)∧k≠z)∨e=(k,x)∧k≠x)↔A∨∃ z,z∈l++[x]∧e=(k,z)∧k≠z:=by
 constructor
 · rintro ((h | ⟨z,h1,h2⟩) | h)
   · exact .inl h
   · exact .inr ⟨z,Lw _ h1,h2⟩
   · exact .inr ⟨x,by simp,h⟩
 · rintro (h | ⟨z,h1,h2⟩)
   · exact .inl (.inl h)
   · rcases Ls.1 h1 with h1 | h1
     · exact .inl (.inr ⟨z,h1,h2⟩)
     · rw [Lf.1 h1] at h2; exact .inr h2
theorem hits_len(l:List (Int×Int×Int))(a b:Int):(Pl.hits l a b).length≤l.length:=Ki (List.takeWhile_sublist _).length_le (List.dropWhile_sublist _).length_le
theorem q_graph(q:Option Addr)(cq:Nat)(cs:List CmdV)(w0:World)(hq:Rd w0 q (cs.flatMap JM))(hl:cs.length≤40)(hck:∀ c∈cs,Pl.ccheck c.cm=0)(hd:(cs.map Pl.tgE).Pairwise Pl.dj2):C Tryz.prog 96 [.slice q cs.length cq] w0 fun v w'=>∃ (E:List (Int×Int)) (mh:Nat) (Zh:List (Nat×Blk)),v=.pointer (some ⟨mh,0,none⟩)∧QP 239 3 cs.length E mh Zh∧E.length≤1600∧(∀ e,e∈E↔Pl.CfE cs cs.length e)∧Mem w0 w' No Zh:=by
 refine C_o Tryz.func96 fun κ _ Je Jc hm=>?_
 refine au 9 ?_
 refine cT rfl rfl rfl (g_new cs.length _ (by omega)) fun v w hR=>?_
 obtain ⟨mh,Zh,rfl,hzh,hmc⟩:=hR
 replace hm:=hm.XR hmc
 refine au 6 ?_
 refine cT rfl rfl rfl (q_targets q cq cs _ (hq.Jj hm.to) hl hck hd) fun v w hR=>?_
 obtain ⟨mi,p_u,n_u,c_u,g_u,b_u,ys,rfl,ha_u,hyp,hasc,hok3,hmc⟩:=hR
 replace hm:=hm.Jt hmc
 obtain rfl:=ha_u.QB Q8 (by decide)
 have hyl:=hyp.length_eq
 rw [Yb,Lj] at hyl
 refine au 12 ?_
 refine Jg (ι:=Nat×List (Int×Int)×List (Nat×Blk)) rfl (ks:=[2,3,4,16,17]) (.cons rfl (.cons rfl (.cons rfl (.cons rfl (.cons rfl .nil))))) (fun x=>[(18,.int .i64 (x.1:Int))]) (fun x w=>Mem w0 w No ((mi,.row 297 [.slice p_u ys.length c_u])::(g_u,b_u)::x.2.2)∧QP 239 3 cs.length x.2.1 mh x.2.2∧(∀ e,e∈x.2.1↔Pl.CfE cs x.1 e)∧x.1≤cs.length∧x.2.1.length≤40*x.1) (fun x=>cs.length-x.1) (0,[],Zh) (⟨(hm.Jp [0,1] 2 rfl),hzh,fun e=>⟨fun h=>by simp at h,fun h=>absurd h (cfe_zero cs e)⟩,LL _,LL _⟩) ⟨rfl,trivial⟩ (fun x w hM=>?_)
 obtain ⟨k,E1,Z1⟩:=x
 obtain ⟨hm,hz1,hch,hk,hel⟩:=hM
 simp only at hm hz1 hch hk hel ⊢
 refine au 6 ?_
 refine cd (fun hc0=>?_) fun hc0=>?_
 ·
  simp only [dT] at hc0
  obtain ⟨c,hi⟩:∃ y_,cs[k]?=some y_:=⟨_,La (by omega)⟩
  obtain ⟨qb,qo,rfl⟩:=hq.atI Jf (by decide) hi
  have hcc:=hck c (Ld hi)
  refine au 8 ?_
  refine Ja rfl rfl (JU rfl ag60.h (hq.Jj hm.to).nt Jf hi) ?_
  refine aT hm fun mc w hm=>?_
  refine au 1 ?_
  refine st hm 0 fun w hm=>?_
  refine au 5 ?_
  refine cA rfl rfl rfl (VI c.cm c.d.p c.d.cap _) hm fun w hm=>?_
  refine au 3 ?_
  refine aT hm fun ms w hm=>?_
  refine st hm 0 fun w hm=>?_
  refine au 8 ?_
  refine cd (fun hc1=>?_) fun hc1=>?_
  ·
   simp only [dT] at hc1
   have hk1:c.k=1:=hc1
   have hcs:=dj_to hcc hk1
   have hsr:Q9 (Pl.csrc c.cm)=[.int .i64 c.fr,.int .i64 c.ln]:=by unfold Pl.csrc; rw [LI hc1]; rfl
   have hhl:=hits_len ys c.fr c.ln
   refine au 3 ?_
   refine Ja rfl rfl (y_v (Jm (s:=2) (vs:=[_,_]) rfl ag32.h (hm.nt 0 rfl) rfl) (LM (fun x=>Value.agg ⟨x⟩) hsr)) ?_
   refine cT rfl rfl rfl (i_meet mi p_u c_u ys _ (hm.get (k:=2) rfl) (ha_u.rd hm 3 rfl) (by omega) (fun x hx=>(hok3 x hx).1) c.fr c.ln (asc_up hasc hok3) (by omega)) fun v w hR=>?_
   obtain ⟨p_h,n_h,cap_h,g_h,b_h,rfl,ha_h,hmc⟩:=hR
   replace hm:=hm.Jt hmc
   obtain rfl:=ha_h.QB Jq (by decide)
   have hpl:((Pl.hits ys c.fr c.ln).map fun x=>x.2.2).length=(Pl.hits ys c.fr c.ln).length:=Lj _
   refine au 5 ?_
   refine Jg (ι:=Nat×List (Int×Int)×List (Nat×Blk)) rfl (ks:=[2,3,4,5,16,17,18,31,32]) (.cons rfl (.cons rfl (.cons rfl (.cons rfl (.cons rfl (.cons rfl (.cons rfl (.cons rfl (.cons rfl .nil))))))))) (fun y=>[(33,.int .i64 (y.1:Int))]) (fun y w=>Mem w0 w No ((g_h,b_h)::(mc,.row 60 (JM c))::(ms,.row 32 [.int .i64 c.fr,.int .i64 c.ln])::(mi,.row 297 [.slice p_u ys.length c_u])::(g_u,b_u)::y.2.2)∧QP 239 3 cs.length y.2.1 mh y.2.2∧(∀ e,e∈y.2.1↔Pl.CfE cs k e∨∃ z,z∈((Pl.hits ys c.fr c.ln).map fun x=>x.2.2).take y.1∧e=((k:Int),z)∧(k:Int)≠z)∧y.1≤((Pl.hits ys c.fr c.ln).map fun x=>x.2.2).length∧y.2.1.length≤40*k+y.1) (fun y=>((Pl.hits ys c.fr c.ln).map fun x=>x.2.2).length-y.1) (0,E1,Z1) (⟨by rw [← hsr]; exact (hm.Jp [0,2,1,3,4] 5 rfl),hz1,fun e=>by rw [hch]; simp,LL _,hel⟩) ⟨rfl,trivial⟩ (fun y w hM=>?_)
   obtain ⟨k2,E2,Z2⟩:=y
   obtain ⟨hm,hz2,hch2,hk2,hel2⟩:=hM
   simp only at hm hz2 hch2 hk2 hel2 ⊢
   refine au 6 ?_
   refine cd (fun hc2=>?_) fun hc2=>?_
   ·
    simp only [dT] at hc2
    obtain ⟨z,hi2⟩:∃ y_,((Pl.hits ys c.fr c.ln).map fun x=>x.2.2)[k2]?=some y_:=⟨_,La (by omega)⟩
    obtain ⟨qb,qo,rfl⟩:=(ha_h.rd hm 0 rfl).atI Jq (by decide) hi2
    obtain ⟨jz,dz,rfl,hjz,-⟩:=(hit_pos hyp hasc hok3 hk1 hcs.2.1 z).1 (Ld hi2)
    have hjl:=(Le.1 hjz).1
    refine au 7 ?_
    refine Ja rfl rfl (J3 rfl sc3.h (ha_h.rd hm 0 rfl).nt Jq hi2 rfl) ?_
    refine au 8 ?_
    refine Jb (l:=[_,_]) rfl rfl sl243.h z201.h rfl rfl rfl rfl rfl rfl rfl hm trivial fun m3 w hg_m3 hm hh=>?_
    refine cT rfl rfl rfl (g_add cs.length mh E2 Z2 _ (Jr.right (A:=[_,_,_,_,_,_]) hm.Jz) hz2 (by omega) _ _ [((k:Int),(jz:Int))] (Rd.JL (hm.get (k:=0) rfl)) (fun _ ad h=>by cases h; exact Mem.notT (A:=[_,_,_,_,_,_]) hm (k:=0) rfl) (by simp)) fun v w hR=>?_
    obtain ⟨c9,Z9,rfl,hz9,hmc⟩:=hR
    replace hm:=Mem.JQ (A:=[_,_,_,_,_,_]) hm hmc
    refine au 7 ?_
    exact next (k2+1,Pl.gadds cs.length E2 [((k:Int),(jz:Int))],Z9) (by simp only; omega) ⟨(hm.Jp [1,2,3,4,5] 6 rfl),hz9,fun u=>by simp only; rw [show Pl.gadds cs.length E2 [((k:Int),(jz:Int))]=Pl.gadd cs.length E2 ((k:Int),(jz:Int)) from rfl,gadd_any (by omega),hch2,QG hi2]; exact cfe_step,by simp only; omega,by have:=gadds_le cs.length [((k:Int),(jz:Int))] E2; simp only [LG] at *; omega⟩ ⟨nx k2,rfl,rfl,rfl,rfl,rfl,rfl,rfl,rfl,rfl,trivial⟩
   ·
    simp only [dF] at hc2
    have hke2:k2=((Pl.hits ys c.fr c.ln).map fun x=>x.2.2).length:=by omega
    refine au 10 ?_
    exact next (k+1,E2,Z2) (by simp only; omega) ⟨(hm.Jp [3,4] 5 rfl),hz2,fun u=>by simp only; rw [cfe_copy hi,hch2,hke2,Lv]; simp only [hit_pos hyp hasc hok3 hk1 hcs.2.1],by simp only; omega,by simp only; omega⟩ ⟨nx k,rfl,rfl,rfl,rfl,rfl,trivial⟩
  ·
   simp only [dF] at hc1
   have hk1:c.k≠1:=hc1
   refine au 7 ?_
   exact next (k+1,E1,Z1) (by simp only; omega) ⟨(hm.Jp [2,3] 4 rfl),hz1,fun u=>by simp only; rw [cfe_lit hi hk1,hch],by simp only; omega,by simp only; omega⟩ ⟨nx k,rfl,rfl,rfl,rfl,rfl,trivial⟩
 ·
  simp only [dF] at hc0
  have hke:k=cs.length:=by omega
  rw [hke] at hch
  refine au 13 ?_
  exact ⟨E1,mh,Z1,rfl,hz1,by omega,hch,(hm.Jp [] 2 rfl)⟩
theorem mg110:MK Tryz.prog 110 kvI (.int .i64 0):=.i (by kernel_rfl)
theorem c_bs(p:Option Addr)(cap:Nat)(xs:List Int)(x:Int)(w0:World)(hr:Rd w0 p (xs.flatMap Cx.encI))(hl:xs.length≤1000000000)(hs:xs.Pairwise (·≤·))(hn:x∉xs):C Tryz.prog 163 [.slice p xs.length cap,.int .i64 x] w0 fun v w'=>v=.tuple ⟨[.int .i64 ((xs.countP (·<x):Nat):Int),.bool false]⟩∧Ext No w0 w':=bsI layB p cap xs x w0 hr hl hs hn
theorem c_ins(p:Option Addr)(cap:Nat)(xs:List Int)(g:Nat)(b:Blk)(i:Nat)(x:Int)(vb vc:Nat)(w0:World)(ha:Zo 3 xs.length cap p xs g b)(hr:b.real=true→w0.heap[g]?=some b.Jd)(hv:w0.heap[vb]?=some (Blk.row 3 [.int .i64 x]).Jd)(hg:b.real=true→vb≠g)(hl:xs.length≤1000000000)(hi:i≤xs.length)(hc63:cap≤9223372036854775807) :
 C Tryz.prog 164 [.slice p xs.length cap,.int .i64 (i:Int),.slice (some ⟨vb,0,none⟩) 1 vc] w0 fun v w'=>∃ p' cap' g' b',v=.slice p' (xs.length+1) cap'∧Zo 3 (xs.length+1) cap' p' (xs.take i++x::xs.drop i) g' b'∧InsR w0 w' g b g' b'∧cap'≤9223372036854775807:=insI layT rfl p cap xs g b i x vb vc w0 ha hr hv hg hl hi hc63
theorem o_remove(n m:Nat)(E:List (Int×Int))(Z:List (Nat×Blk))(w0:World)(hZ:Jr w0 Z)(hz:QP 239 3 n E m Z)(hE:E.length≤1000000)(sk:Option Addr)(csk:Nat)(ss:List Int)(hs:Rd w0 sk (ss.flatMap Cx.encI))(hsl:ss.length≤1000000):C Tryz.prog 128 [.pointer (some ⟨m,0,none⟩),.slice sk ss.length csk] w0 fun v w'=>∃ (p:Option Addr) (k c g:Nat) (b:Blk) (out:List Int) (md:Nat) (es:EsG Int) (ck:Nat) (K:List Int) (f:Int→Int),v=.tuple ⟨[.slice p k c,.map (some md)]⟩∧Acc 3 1 p k c (out.flatMap Cx.encI) g b∧DegM es ck K f∧Pl.Kahn E (Pl.nsk ss n) out K∧(∀ v∈K,∃ u∈Pl.ins E v,u∈K)∧Mem w0 w' No [(g,b),(md,mgB kvI es ck)]:=by
 have hz0:=hz
 have hEl:=hE
 have hle:n≤1048576:=by obtain ⟨_,_,_,_,_,_,_,_,_,hg,_⟩:=hz; exact hg.le
 obtain ⟨me,mo,mi,ee,ce,lo,li,co,ci,hg,rfl⟩:=hz
 have hcc:=fun v w9 (hx9:Ext No w0 w9)=>c_cont sk csk ss v w9 (hs.Jj hx9) (by omega)
 refine C_o Tryz.func128 fun κ _ Je Jc hm=>?_
 refine au 8 ?_
 refine a_makeG kvI rfl rfl hm trivial fun md w hg_md hm hh=>?_
 refine au 7 ?_
 refine cA rfl rfl rfl (g_len n m _ _ (Qp hm.to (hZ.get (k:=0) rfl))) hm fun w hm=>?_
 refine au 4 ?_
 refine Jg (ι:=Nat×EsG Int×Nat) rfl (ks:=[0,1,4,5,6,27]) (.cons rfl (.cons rfl (.cons rfl (.cons rfl (.cons rfl (.cons rfl .nil)))))) (fun x=>[(28,.int .i64 (x.1:Int))]) (fun x w=>Mem w0 w No [(md,mgB kvI x.2.1 x.2.2)]∧DegM x.2.1 x.2.2 (Pl.nsk ss x.1) (fun _=>0)∧x.1≤n) (fun x=>n-x.1) (0,[],0) (⟨hm,DegM.nil _,LL _⟩) ⟨rfl,trivial⟩ (fun x w hM=>?_)
 obtain ⟨k,es,ck⟩:=x
 obtain ⟨hm,hdm,hk⟩:=hM
 simp only at hm hdm hk ⊢
 refine au 6 ?_
 refine cd (fun hc0=>?_) fun hc0=>?_
 ·
  simp only [dT] at hc0
  refine au 14 ?_
  refine cA rfl rfl rfl (hcc k _ hm.to) hm fun w hm=>?_
  refine au 3 ?_
  refine cd (fun hc1=>?_) fun hc1=>?_
  ·
   simp only [bE,dF] at hc1
   refine au 3 ?_
   refine ZI (kk:=(k:Int)) rfl rfl rfl rfl rfl mg110 hm 0 rfl fun w hm=>?_
   refine au 7 ?_
   exact next (k+1,VS es ck k (.int .i64 0),ckG es ck k) (by simp only; omega) ⟨(hm.pick [0] rfl),by rw [Pl.nsk_next,LI hc1]; exact hdm.new (fun _ _=>rfl) rfl,by simp only; omega⟩ ⟨nx k,rfl,rfl,rfl,rfl,rfl,rfl,trivial⟩
  ·
   simp only [bF,dT] at hc1
   refine au 7 ?_
   exact next (k+1,es,ck) (by simp only; omega) ⟨(hm.pick [0] rfl),by rw [Pl.nsk_next,LH (fun h=>h hc1),Lq]; exact hdm,by simp only; omega⟩ ⟨nx k,rfl,rfl,rfl,rfl,rfl,rfl,trivial⟩
 ·
  simp only [dF] at hc0
  have hke:k=n:=by omega
  rw [hke] at hdm
  refine au 9 ?_
  refine a_rangeG rfl rfl rfl un110 (hm.get (k:=0) rfl) hm fun it w hm=>?_
  refine au 3 ?_
  refine Jg (ι:=EsG Int×List (Int×Unit×Nat)) rfl (ks:=[0,4,5,6,39]) (.cons rfl (.cons rfl (.cons rfl (.cons rfl (.cons rfl .nil))))) (fun x=>[]) (fun x w=>Mem w0 w No [(it,.obj (.mapIter (some md) ck ⟨x.2.map (·.2.2)⟩ ck)),(md,mgB kvI x.1 ck)]∧x.1.map prG=es.map prG∧Vis (es.map prG) x.2∧DegM x.1 ck (Pl.nsk ss n) (fun v=>if v∈x.2.map (·.1) then (Pl.dg E (Pl.nsk ss n) v:Int) else 0)) (fun x=>(es.map prG).length-x.2.length) (es,[]) (⟨hm,rfl,Vis.nil _,hdm.to (fun _ _=>by simp)⟩) trivial (fun x w hM=>?_)
  obtain ⟨es2,vis⟩:=x
  obtain ⟨hm,hpr,hv,hdm2⟩:=hM
  simp only at hm hpr hv hdm2 ⊢
  refine au 1 ?_
  rcases nextG (P:=Tryz.prog) (hm.get (k:=0) rfl) (hm.get (k:=1) rfl) hdm2.wf with ⟨hall,hrun⟩ | ⟨e,he,hnew,w1,hE1,hw1,hrun⟩
  ·
   have hdmF:DegM es2 ck (Pl.nsk ss n) (fun v=>(Pl.dg E (Pl.nsk ss n) v:Int)):=hdm2.to fun v hv9=>by rw [LI ((vis_all hpr hv hdm.wf hall v).2 ((hdm.keys v).2 hv9))]
   refine au 1 ?_
   refine a_nextF rfl rfl rfl hrun ?_
   refine au 13 ?_
   replace hm:=hm.JP
   have ha_o:=Acc.nil 3 1 none 0
   refine au 1 ?_
   replace hm:=hm.JP
   have ha_r:=Acc.nil 3 1 none 0
   refine au 6 ?_
   refine cA rfl rfl rfl (g_len n m _ _ (Qp hm.to (hZ.get (k:=0) rfl))) hm fun w hm=>?_
   refine au 4 ?_
   refine Jg (ι:=Nat×Ow) rfl (ks:=[0,4,5,6,13,65]) (.cons rfl (.cons rfl (.cons rfl (.cons rfl (.cons rfl (.cons rfl .nil)))))) (fun x=>[(66,.int .i64 (x.1:Int)),(14,.slice x.2.p x.2.n x.2.cap)]) (fun x w=>Mem w0 w No [(x.2.g,x.2.b),(0,.gap),(md,mgB kvI es2 ck)]∧Acc 3 1 x.2.p x.2.n x.2.cap ((Pl.rdy E (Pl.nsk ss n) x.1).flatMap Cx.encI) x.2.g x.2.b∧x.1≤n∧x.2.cap≤9223372036854775807) (fun x=>n-x.1) (0,⟨none,0,0,0,.gap⟩) (⟨(hm.pick [0,1,3] rfl),ha_r,LL _,by decide⟩) ⟨rfl,rfl,trivial⟩ (fun x w hM=>?_)
   obtain ⟨k,p_r,n_r,cap_r,g_r,b_r⟩:=x
   obtain ⟨hm,ha_r,hk,hcp_r⟩:=hM
   simp only at hm ha_r hk hcp_r ⊢
   obtain rfl:=ha_r.QB Jq (by decide)
   have hrl:(Pl.rdy E (Pl.nsk ss n) k).length≤k:=by unfold Pl.rdy; exact Ki (List.length_filter_le ..) (Nat.le_of_eq (Pl.Qj k))
   refine au 6 ?_
   refine cd (fun hc5=>?_) fun hc5=>?_
   ·
    simp only [dT] at hc5
    refine au 14 ?_
    refine Ja rfl rfl (y_lookC (kk:=(k:Int)) rfl rfl rfl mg110 (hm.nt 2 rfl)) ?_
    refine au 1 ?_
    refine Ja rfl rfl (y_v (J7 rfl rfl) (hdmF.getD k)) ?_
    refine Ja rfl rfl (y_v (J7 rfl rfl) (LM Value.bool (hdmF.has k))) ?_
    refine au 13 ?_
    refine cd (fun hc6=>?_) fun hc6=>?_
    ·
     simp only [bA,dT] at hc6
     have hr6:(k:Int)∈(Pl.nsk ss n)∧Pl.dg E (Pl.nsk ss n) k=0:=⟨hc6.1,by have:=hc6.2; rw [LI hc6.1] at this; omega⟩
     refine au 3 ?_
     refine Jb (l:=[_]) rfl rfl sl134.h z3.h rfl rfl rfl rfl rfl rfl rfl hm trivial fun m1 w hg_m1 hm hh=>?_
     refine a_appendC rfl rfl rfl rfl rfl rfl sl134.h sl134.h z3.h rfl rfl (Rd.JL (hm.get (k:=0) rfl)) rfl ha_r hm 1 rfl (by omega) (by omega) hcp_r fun p_r cap_r g_r b_r w ha_r hm hcp_r=>?_
     refine au 8 ?_
     exact next (k+1,⟨p_r,_,cap_r,g_r,b_r⟩) (by simp only; omega) ⟨(hm.pick [1,2,3] rfl),ha_r.to (by simp only; rw [Pl.rdy_next,LI hr6,Lh]; rfl),by simp only; omega,hcp_r⟩ ⟨nx k,rfl,rfl,rfl,rfl,rfl,rfl,rfl,trivial⟩
    ·
     have hr6:¬ ((k:Int)∈(Pl.nsk ss n)∧Pl.dg E (Pl.nsk ss n) k=0):=fun h=>by simp [h.1,h.2] at hc6
     refine au 7 ?_
     exact next (k+1,⟨p_r,_,cap_r,g_r,b_r⟩) (by simp only; omega) ⟨(hm.pick [0,1,2] rfl),ha_r.to (by simp only; rw [Pl.rdy_next,LH hr6,Lq]),by simp only; omega,hcp_r⟩ ⟨nx k,rfl,rfl,rfl,rfl,rfl,rfl,rfl,trivial⟩
   ·
    simp only [dF] at hc5
    have hke:n=k:=by omega
    subst hke
    have ha_r:=Zo.of ha_r
    have hkr:=Pl.rdy_ok (E:=E) (K:=(Pl.nsk ss n)) (n:=n) (fun v hv=>by have:=Pl.Vh.1 hv; omega)
    have hnl:(Pl.nsk ss n).length≤n:=by unfold Pl.nsk; exact Ki (List.length_filter_le ..) (Nat.le_of_eq (Pl.Qj n))
    refine au 7 ?_
    refine Jg (ι:=Ow×Ow×List Int×List Int×EsG Int×List Int) rfl (ks:=[0,4,5,6]) (.cons rfl (.cons rfl (.cons rfl (.cons rfl .nil)))) (fun x=>[(13,.slice x.1.p x.1.n x.1.cap),(14,.slice x.2.1.p x.2.1.n x.2.1.cap)]) (fun x w=>Mem w0 w No [(x.2.1.g,x.2.1.b),(x.1.g,x.1.b),(md,mgB kvI x.2.2.2.2.1 ck)]∧Zo 3 x.2.1.n x.2.1.cap x.2.1.p x.2.2.2.1 x.2.1.g x.2.1.b∧x.2.1.cap≤9223372036854775807∧Acc 3 1 x.1.p x.1.n x.1.cap (x.2.2.1.flatMap Cx.encI) x.1.g x.1.b∧DegM x.2.2.2.2.1 ck x.2.2.2.2.2 (fun v=>(Pl.dg E x.2.2.2.2.2 v:Int))∧Pl.Kahn E (Pl.nsk ss n) x.2.2.1 x.2.2.2.2.2∧Pl.KahnR E x.2.2.2.2.2 x.2.2.2.1 (fun v=>(Pl.dg E x.2.2.2.2.2 v:Int))∧x.2.2.2.2.2.length+x.2.2.1.length≤n) (fun x=>x.2.2.2.2.2.length) (⟨none,0,0,0,.gap⟩,⟨p_r,_,cap_r,g_r,b_r⟩,[],_,es2,_) (⟨(hm.pick [0,1,2] rfl),ha_r,hcp_r,ha_o,hdmF,Pl.Kahn.start E _,hkr,by simp only [LA,Nat.add_zero]; exact hnl⟩) ⟨rfl,rfl,trivial⟩ (fun x w hM=>?_)
    obtain ⟨⟨p_o,n_o,cap_o,g_o,b_o⟩,⟨p_r,n_r,cap_r,g_r,b_r⟩,ol,rl,es,Ks⟩:=x
    obtain ⟨hm,ha_r,hcp_r,ha_o,hdm,hkn,hkr,hkl⟩:=hM
    simp only at hm ha_r hcp_r ha_o hdm hkn hkr hkl ⊢
    obtain rfl:=ha_o.QB Jq (by decide)
    obtain rfl:=ha_r.1
    have hrle:=hkr.le
    have hrc:=ha_r.le
    refine au 8 ?_
    refine cd (fun hc7=>?_) fun hc7=>?_
    ·
     simp only [dT] at hc7
     obtain ⟨vv,rl,rfl⟩:∃ a l,rl=a::l:=by cases rl with | nil=>simp at hc7 | cons a l=>exact ⟨a,l,rfl⟩
     have hi:(vv::rl)[0]?=some vv:=rfl
     obtain ⟨qb,qo,rfl⟩:=(ha_r.rd hm 0 rfl).atI Jq (by decide) hi
     have hvK:vv∈Ks:=((hkr.mem vv).1 (Lo ..)).1
     have hvd:Pl.dg E Ks vv=0:=by have:=((hkr.mem vv).1 (Lo ..)).2; omega
     have hkn2:=hkn.pop hvK hvd
     have hless:(Ks.filter fun u=>decide (u≠vv)).length<Ks.length:=List.length_filter_lt_length_iff_exists.2 ⟨vv,hvK,by simp⟩
     have hol:=Pl.Yj E vv
     have hsl9:(Pl.srt (Pl.outs E vv)).length≤E.length:=by rw [(Pl.Q3 _).length_eq]; exact hol
     have hln9:(vv::rl).length=rl.length+1:=rfl
     refine au 7 ?_
     refine Ja rfl rfl (J3 rfl sc3.h (ha_r.rd hm 0 rfl).nt Jq hi rfl) ?_
     refine au 6 ?_
     refine Ja rfl rfl (JE (ln:=1) (hn:=(rl.length+1)) rfl sl134.h ⟨_,rfl⟩ rfl (by omega) (by omega) (fun h ad e=>by cases e; rfl)) ?_
     replace ha_r:=ha_r.tail
     have hcp_r:cap_r-1≤9223372036854775807:=by omega
     refine au 7 ?_
     refine a_delG (kk:=vv) rfl rfl rfl rfl mg110 hm 2 rfl fun w hm=>?_
     refine au 6 ?_
     refine Jb (l:=[_]) rfl rfl sl134.h z3.h rfl rfl rfl rfl rfl rfl rfl hm trivial fun m1 w hg_m1 hm hh=>?_
     refine Jy rfl rfl rfl rfl rfl rfl sl134.h sl134.h z3.h rfl rfl (Rd.JL (hm.get (k:=0) rfl)) rfl ha_o hm 2 rfl (by omega) (by omega) fun p_o cap_o g_o b_o w ha_o hm=>?_
     refine au 7 ?_
     refine cT rfl rfl rfl (g_out n m E _ _ (hZ.ext hm.to) hz0 hEl vv) fun v w hR=>?_
     obtain ⟨p_u,n_u,cap_u,g_u,b_u,rfl,ha_u,hmc⟩:=hR
     replace hm:=hm.Jt hmc
     obtain rfl:=ha_u.QB Jq (by decide)
     refine au 5 ?_
     refine Jg (ι:=Nat×Ow×List Int×EsG Int) rfl (ks:=[0,4,5,6,13,101,102]) (.cons rfl (.cons rfl (.cons rfl (.cons rfl (.cons rfl (.cons rfl (.cons rfl .nil))))))) (fun y=>[(103,.int .i64 (y.1:Int)),(14,.slice y.2.1.p y.2.1.n y.2.1.cap)]) (fun y w=>Mem w0 w No [(y.2.1.g,y.2.1.b),(g_o,b_o),(g_u,b_u),(md,mgB kvI y.2.2.2 ck)]∧Zo 3 y.2.1.n y.2.1.cap y.2.1.p y.2.2.1 y.2.1.g y.2.1.b∧y.2.1.cap≤9223372036854775807∧DegM y.2.2.2 ck (Ks.filter fun u=>decide (u≠vv)) (fun v=>(Pl.dg E Ks v:Int)-(if v∈(Pl.srt (Pl.outs E vv)).take y.1 then 1 else 0))∧Pl.KahnR E (Ks.filter fun u=>decide (u≠vv)) y.2.2.1 (fun v=>(Pl.dg E Ks v:Int)-(if v∈(Pl.srt (Pl.outs E vv)).take y.1 then 1 else 0))∧y.1≤(Pl.srt (Pl.outs E vv)).length) (fun y=>(Pl.srt (Pl.outs E vv)).length-y.1) (0,⟨_,_,_,g_r,b_r⟩,rl,_) (⟨(hm.pick [2,3,0,4] rfl),ha_r,hcp_r,(hdm.del vv).to (fun v _=>by simp),hkr.tail.to (fun v=>by simp),LL _⟩) ⟨rfl,rfl,trivial⟩ (fun y w hM=>?_)
     obtain ⟨k2,⟨p_r,n_r,cap_r,g_r,b_r⟩,rl2,es3⟩:=y
     obtain ⟨hm,ha_r,hcp_r,hdm3,hkr3,hk2⟩:=hM
     simp only at hm ha_r hcp_r hdm3 hkr3 hk2 ⊢
     obtain rfl:=ha_r.1
     have hrle3:=hkr3.le
     refine au 6 ?_
     refine cd (fun hc8=>?_) fun hc8=>?_
     ·
      simp only [dT] at hc8
      obtain ⟨z,hi2⟩:∃ y_,(Pl.srt (Pl.outs E vv))[k2]?=some y_:=⟨_,La (by omega)⟩
      obtain ⟨qb,qo,rfl⟩:=(ha_u.rd hm 2 rfl).atI Jq (by decide) hi2
      have hsn:=QG hi2
      have hzn:z∉(Pl.srt (Pl.outs E vv)).take k2:=topo_new (Pl.outs_nodup hg.nd vv) hi2
      have hzo:z∈Pl.outs E vv:=(Pl.Q3 _).mem_iff.1 (Ld hi2)
      have hzd:=Pl.dg_del hg.nd hvK z
      rw [LI hzo] at hzd
      refine au 7 ?_
      refine Ja rfl rfl (J3 rfl sc3.h (ha_u.rd hm 2 rfl).nt Jq hi2 rfl) ?_
      refine au 8 ?_
      refine Ja rfl rfl (y_lookC (kk:=z) rfl rfl rfl mg110 (hm.nt 3 rfl)) ?_
      refine au 2 ?_
      refine Ja rfl rfl (y_v (J7 rfl rfl) (LM Value.bool (hdm3.has z))) ?_
      refine au 10 ?_
      refine cd (fun hc9=>?_) fun hc9=>?_
      ·
       simp only [bE,dF] at hc9
       have hsame:∀ v∈(Ks.filter fun u=>decide (u≠vv)),(fun v=>(Pl.dg E Ks v:Int)-(if v∈(Pl.srt (Pl.outs E vv)).take k2 then 1 else 0)) v=(fun v=>(Pl.dg E Ks v:Int)-(if v∈(Pl.srt (Pl.outs E vv)).take (k2+1) then 1 else 0)) v:=fun v hv=>by simp only [hsn,Ls,Lf]; exact if hvz:v=z then absurd (hvz▸hv) hc9 else (by simp only [hvz,or_false])
       refine au 8 ?_
       exact next (k2+1,⟨p_r,_,cap_r,g_r,b_r⟩,rl2,es3) (by simp only; omega) ⟨(hm.pick [0,1,2,3] rfl),ha_r,hcp_r,hdm3.to hsame,hkr3.to (fun v=>and_congr_right fun hv=>iff_of_eq (LM (fun q:Int=>q=0) (hsame v hv))),by simp only; omega⟩ ⟨nx k2,rfl,rfl,rfl,rfl,rfl,rfl,rfl,rfl,trivial⟩
      ·
       simp only [bF,dT] at hc9
       have hdv:(lkG es3 z).getD (.int .i64 0)=.int .i64 ((Pl.dg E Ks z:Nat):Int):=by rw [hdm3.get hc9]; simp only [LH hzn,Int.sub_zero]
       have hdgl:=Pl.ins_le E z
       have hdgl2:Pl.dg E Ks z≤E.length:=Ki (List.length_filter_le ..) hdgl
       have hoth:∀ v∈(Ks.filter fun u=>decide (u≠vv)),v≠z→(fun v=>(Pl.dg E Ks v:Int)-(if v∈(Pl.srt (Pl.outs E vv)).take k2 then 1 else 0)) v=(fun v=>(Pl.dg E Ks v:Int)-(if v∈(Pl.srt (Pl.outs E vv)).take (k2+1) then 1 else 0)) v:=fun v _ hvz=>by simp only [hsn,Ls,Lf,hvz,or_false]
       have hzv:(fun v=>(Pl.dg E Ks v:Int)-(if v∈(Pl.srt (Pl.outs E vv)).take (k2+1) then 1 else 0)) z=(Pl.dg E Ks z:Int)-1:=by simp only [hsn,Ls,Lf,or_true,if_true]
       refine au 6 ?_
       refine Ja rfl rfl (y_v (Vz (kk:=z) rfl rfl rfl mg110 (hm.nt 3 rfl)) hdv) ?_
       refine au 1 ?_
       refine ZI (kk:=z) rfl rfl rfl rfl rfl mg110 hm 3 rfl fun w hm=>?_
       have hdm4:=hdm3.set hc9 hoth hzv
       rw [hdm3.cks hc9] at hdm4 hm
       refine au 6 ?_
       refine Ja rfl rfl (y_v (Vz (kk:=z) rfl rfl rfl mg110 (hm.nt 3 rfl)) ((hdm4.get hc9).trans (LM (Value.int .i64) hzv))) ?_
       refine au 3 ?_
       refine cd (fun hc10=>?_) fun hc10=>?_
       ·
        simp only [dT] at hc10
        obtain ⟨hzr,hkr4⟩:=hkr3.put (w:=z) hc9 (by simp only [LH hzn]; omega) (hzv.trans hc10) hoth
        refine au 4 ?_
        refine cA rfl rfl rfl (c_bs p_r cap_r rl2 z _ (ha_r.rd hm 0 rfl) (by omega) (hkr3.lt.imp fun h=>Int.le_of_lt h) hzr) hm fun w hm=>?_
        refine au 11 ?_
        refine Jb (l:=[_]) rfl rfl sl134.h z3.h rfl rfl rfl rfl rfl rfl rfl hm trivial fun m7 w hg_m7 hm hh=>?_
        refine cT rfl rfl rfl (c_ins p_r cap_r rl2 g_r b_r (rl2.countP (·<z)) z m7 1 _ ha_r (fun h9=>hm.getR (k:=1) rfl h9) (hm.get (k:=0) rfl) (fun h9 e9=>hm.neB 0 1 rfl rfl rfl rfl ⟨e9,h9⟩) (by omega) List.countP_le_length hcp_r) fun v w hR=>?_
        obtain ⟨p_r,cap_r,g_r,b_r,rfl,ha_r,hins,hcp_r⟩:=hR
        replace hm:=hm.callI 1 rfl hins
        refine au 8 ?_
        exact next (k2+1,⟨p_r,_,cap_r,g_r,b_r⟩,rl2.take (rl2.countP (·<z))++z::rl2.drop (rl2.countP (·<z)),VS es3 ck z (.int .i64 _)) (by simp only; omega) ⟨(hm.pick [1,2,3,4] rfl),ha_r,hcp_r,hdm4,hkr4,by simp only; omega⟩ ⟨nx k2,rfl,rfl,rfl,rfl,rfl,rfl,rfl,rfl,trivial⟩
       ·
        simp only [dF] at hc10
        rw [← hzv] at hc10
        refine au 7 ?_
        exact next (k2+1,⟨p_r,_,cap_r,g_r,b_r⟩,rl2,VS es3 ck z (.int .i64 _)) (by simp only; omega) ⟨(hm.pick [0,1,2,3] rfl),ha_r,hcp_r,hdm4,hkr3.to (fun v=>and_congr_right fun hv=>if hvz:v=z then (by subst hvz; exact ⟨fun h=>absurd h (by simp only [LH hzn]; omega),fun h=>absurd h hc10⟩) else iff_of_eq (LM (fun q:Int=>q=0) (hoth v hv hvz))),by simp only; omega⟩ ⟨nx k2,rfl,rfl,rfl,rfl,rfl,rfl,rfl,rfl,trivial⟩
     ·
      simp only [dF] at hc8
      have hke2:k2=(Pl.srt (Pl.outs E vv)).length:=by omega
      have hfin:∀ v,(Pl.dg E Ks v:Int)-(if v∈(Pl.srt (Pl.outs E vv)).take k2 then 1 else 0)=(Pl.dg E (Ks.filter fun u=>decide (u≠vv)) v:Int):=fun v=>by rw [hke2,Lv]; have h9:=Pl.dg_del hg.nd hvK v; simp only [(Pl.Q3 _).mem_iff]; split at h9 <;> rename_i h <;> simp only [h,if_true,if_false] <;> omega
      have hdm5:=hdm3.to (fun v _=>hfin v)
      refine au 5 ?_
      exact next (⟨p_o,_,cap_o,g_o,b_o⟩,⟨p_r,_,cap_r,g_r,b_r⟩,ol++[vv],rl2,es3,(Ks.filter fun u=>decide (u≠vv))) hless ⟨(hm.pick [0,1,3] rfl),ha_r,hcp_r,ha_o.to (by simp only; rw [Lh]; rfl),hdm5,hkn2,hkr3.to (fun v=>and_congr_right fun hv=>iff_of_eq (LM (fun q:Int=>q=0) (hfin v))),by simp only [Lc,LG]; omega⟩ ⟨rfl,rfl,rfl,rfl,rfl,rfl,trivial⟩
    ·
     simp only [dF] at hc7
     obtain rfl:=Ll.1 (by omega:rl.length=0)
     refine au 15 ?_
     exact ⟨p_o,_,cap_o,g_o,b_o,ol,md,es,ck,Ks,_,rfl,ha_o,hdm,hkn,fun v hv=>Pl.dg_pos fun h9=>by have:=(hkr.mem v).2 ⟨hv,by omega⟩; simp at this,(hm.pick [1,2] rfl)⟩
  ·
   have hep:prG e∈es.map prG:=by rw [← hpr]; exact Ln.2 ⟨e,he,rfl⟩
   obtain ⟨hv2,hvl⟩:=hv.next hep hnew
   have hvK:e.1∈(Pl.nsk ss n):=(hdm2.keys _).1 (Ln.2 ⟨e,he,rfl⟩)
   have hvn:e.1∉vis.map (·.1):=vis_new hdm.wf.keys hv hep hnew
   have hil:(Pl.srt (Pl.ins E e.1)).length≤E.length:=by rw [(Pl.Q3 _).length_eq]; exact Pl.ins_le E e.1
   refine au 1 ?_
   refine a_nextT rfl rfl rfl hw1 hE1 hrun hm 0 rfl fun w hm=>?_
   refine au 10 ?_
   refine Ja rfl rfl (y_entryG rfl (hm.nt 0 rfl) (hm.nt 1 rfl) he hdm2.wf) ?_
   refine au 8 ?_
   refine cT rfl rfl rfl (g_in n m E _ _ (hZ.ext hm.to) hz0 hEl e.1) fun v w hR=>?_
   obtain ⟨p_u,n_u,cap_u,g_u,b_u,rfl,ha_u,hmc⟩:=hR
   replace hm:=hm.Jt hmc
   obtain rfl:=ha_u.QB Jq (by decide)
   refine au 5 ?_
   refine Jg (ι:=Nat×EsG Int) rfl (ks:=[0,4,5,6,8,39,46,47]) (.cons rfl (.cons rfl (.cons rfl (.cons rfl (.cons rfl (.cons rfl (.cons rfl (.cons rfl .nil)))))))) (fun y=>[(48,.int .i64 (y.1:Int))]) (fun y w=>Mem w0 w No [(g_u,b_u),(it,.obj (.mapIter (some md) ck ⟨vis.map (·.2.2)++[e.2.2]⟩ ck)),(md,mgB kvI y.2 ck)]∧y.2.map prG=es.map prG∧DegM y.2 ck (Pl.nsk ss n) (fun v=>if v=e.1 then ((((Pl.srt (Pl.ins E e.1)).take y.1).filter fun u=>decide (u∈(Pl.nsk ss n))).length:Int) else if v∈vis.map (·.1) then (Pl.dg E (Pl.nsk ss n) v:Int) else 0)∧y.1≤(Pl.srt (Pl.ins E e.1)).length) (fun y=>(Pl.srt (Pl.ins E e.1)).length-y.1) (0,es2) (⟨(hm.pick [0,1,2] rfl),hpr,hdm2.to (fun v _=>if h:v=e.1 then (by subst h; simp only [LI rfl,LH hvn]; rfl) else (by simp only [LH h])),LL _⟩) ⟨rfl,trivial⟩ (fun y w hM=>?_)
   obtain ⟨k2,es3⟩:=y
   obtain ⟨hm,hpr3,hdm3,hk2⟩:=hM
   simp only at hm hpr3 hdm3 hk2 ⊢
   have hcn:=List.length_filter_le (fun u=>decide (u∈(Pl.nsk ss n))) ((Pl.srt (Pl.ins E e.1)).take k2)
   rw [Lg] at hcn
   refine au 6 ?_
   refine cd (fun hc3=>?_) fun hc3=>?_
   ·
    simp only [dT] at hc3
    obtain ⟨z,hi2⟩:∃ y_,(Pl.srt (Pl.ins E e.1))[k2]?=some y_:=⟨_,La (by omega)⟩
    obtain ⟨qb,qo,rfl⟩:=(ha_u.rd hm 0 rfl).atI Jq (by decide) hi2
    refine au 7 ?_
    refine Ja rfl rfl (J3 rfl sc3.h (ha_u.rd hm 0 rfl).nt Jq hi2 rfl) ?_
    refine au 7 ?_
    refine Ja rfl rfl (y_lookC (kk:=z) rfl rfl rfl mg110 (hm.nt 2 rfl)) ?_
    refine au 2 ?_
    refine Ja rfl rfl (y_v (J7 rfl rfl) (LM Value.bool (hdm3.has z))) ?_
    refine au 9 ?_
    refine cd (fun hc4=>?_) fun hc4=>?_
    ·
     simp only [dT] at hc4
     have hdv:(lkG es3 e.1).getD (.int .i64 0)=.int .i64 ((((Pl.srt (Pl.ins E e.1)).take k2).filter fun u=>decide (u∈(Pl.nsk ss n))).length:Nat):=by rw [hdm3.get hvK,LI rfl]
     refine au 3 ?_
     refine Ja rfl rfl (y_v (Vz (kk:=e.1) rfl rfl rfl mg110 (hm.nt 2 rfl)) hdv) ?_
     refine au 1 ?_
     refine ZI (kk:=e.1) rfl rfl rfl rfl rfl mg110 hm 2 rfl fun w hm=>?_
     rw [hdm3.cks hvK] at hm
     refine au 7 ?_
     have h9:=hdm3.set (f':=(fun v=>if v=e.1 then ((((Pl.srt (Pl.ins E e.1)).take (k2+1)).filter fun u=>decide (u∈(Pl.nsk ss n))).length:Int) else if v∈vis.map (·.1) then (Pl.dg E (Pl.nsk ss n) v:Int) else 0)) (x:=((((Pl.srt (Pl.ins E e.1)).take k2).filter fun u=>decide (u∈(Pl.nsk ss n))).length:Int)+1) hvK (fun u _ h=>by simp only [LH h]) (by rw [LI rfl,QG hi2,List.filter_append,Lc,List.filter_cons,LI (by simpa using hc4)]; rfl)
     rw [hdm3.cks hvK] at h9
     exact next (k2+1,VS es3 ck e.1 (.int .i64 _)) (by simp only; omega) ⟨(hm.pick [0,1,2] rfl),by simp only; rw [hdm3.pr hvK]; exact hpr3,h9,by simp only; omega⟩ ⟨nx k2,rfl,rfl,rfl,rfl,rfl,rfl,rfl,rfl,trivial⟩
    ·
     simp only [dF] at hc4
     refine au 7 ?_
     exact next (k2+1,es3) (by simp only; omega) ⟨(hm.pick [0,1,2] rfl),hpr3,hdm3.to (fun v _=>by have h9:(((Pl.srt (Pl.ins E e.1)).take (k2+1)).filter fun u=>decide (u∈(Pl.nsk ss n))).length=(((Pl.srt (Pl.ins E e.1)).take k2).filter fun u=>decide (u∈(Pl.nsk ss n))).length:=(by rw [QG hi2,List.filter_append,List.filter_cons,LH (by simpa using hc4)]; simp); simp only [h9]),by simp only; omega⟩ ⟨nx k2,rfl,rfl,rfl,rfl,rfl,rfl,rfl,rfl,trivial⟩
   ·
    simp only [dF] at hc3
    have hke2:k2=(Pl.srt (Pl.ins E e.1)).length:=by omega
    rw [hke2,Lv,Pl.dg_srt] at hdm3
    refine au 5 ?_
    exact next (es3,vis++[prG e]) (by simp only [Lc,LG]; omega) ⟨by simp only; rw [Lx]; exact (hm.pick [1,2] rfl),hpr3,hv2,hdm3.to (fun v _=>by simp only [Lx,List.map_singleton,Ls,Lf]; exact if h:v=e.1 then (by subst h; simp [prG]) else (by rw [LH h]; exact if h8:v∈vis.map (·.1) then (by rw [LI h8,LI (Or.inl h8)]) else (by rw [LH h8,LH (fun h7=>h7.elim h8 h)])))⟩ ⟨rfl,rfl,rfl,rfl,rfl,trivial⟩
theorem cyc_add{l:List Int}{k:Nat}{P:Int→Prop}(h1:l.Pairwise (·<·))(h2:∀ v,v∈l↔(0≤v∧v<(k:Int))∧P v)(hp:P k):(l++[(k:Int)]).Pairwise (·<·):=by
 rw [List.pairwise_append]
 refine ⟨h1,by simp,fun a ha b hb=>?_⟩
 rw [Lf.1 hb]
 exact ((h2 a).1 ha).1.2
theorem cyc_mem{l:List Int}{k:Nat}{P:Int→Prop}(h2:∀ v,v∈l↔(0≤v∧v<(k:Int))∧P v)(hp:P k)(v:Int):v∈l++[(k:Int)]↔(0≤v∧v<((k+1:Nat):Int))∧P v:=by
 rw [Ls,Lf,h2]
 constructor
 · rintro (⟨h,h3⟩ | rfl)
   · exact ⟨by omega,h3⟩
   · exact ⟨by omega,hp⟩
 · rintro ⟨h,h3⟩
   by_cases e:v=k
   · exact .inr e
   · exact .inl ⟨by omega,h3⟩
theorem cyc_no{l:List Int}{k:Nat}{P:Int→Prop}(h2:∀ v,v∈l↔(0≤v∧v<(k:Int))∧P v)(hp:¬ P k)(v:Int):v∈l↔(0≤v∧v<((k+1:Nat):Int))∧P v:=by
 rw [h2]
 constructor
 · rintro ⟨h,h3⟩; exact ⟨by omega,h3⟩
 · rintro ⟨h,h3⟩
   by_cases e:v=k
   · exact absurd (e▸h3) hp
   · exact ⟨by omega,h3⟩
theorem o_order(n m:Nat)(E:List (Int×Int))(Z:List (Nat×Blk))(w0:World)(hZ:Jr w0 Z)(hz:QP 239 3 n E m Z)(hE:E.length≤1000000)(sk:Option Addr)(csk:Nat)(ss:List Int)(hs:Rd w0 sk (ss.flatMap Cx.encI))(hsl:ss.length≤1000000)(hac:∀ K:List Int,(∀ v∈K,v∈(Pl.nsk ss n))→(∀ v∈K,∃ u∈Pl.ins E v,u∈K)→K=[]):C Tryz.prog 98 [.pointer (some ⟨m,0,none⟩),.slice sk ss.length csk] w0 fun v w'=>∃ (p:Option Addr) (k c g:Nat) (b:Blk) (out:List Int),v=.tuple ⟨[.slice p k c,.bool true]⟩∧Acc 3 1 p k c (out.flatMap Cx.encI) g b∧Pl.Kahn E (Pl.nsk ss n) out []∧Mem w0 w' No [(g,b)]:=by
 have hEl:=hE
 refine C_o Tryz.func98 fun κ _ Je Jc hm=>?_
 refine au 10 ?_
 refine cT rfl rfl rfl (o_remove n m E Z _ (hZ.ext hm.to) hz hEl sk csk ss (hs.Jj hm.to) hsl) fun v w hR=>?_
 obtain ⟨p_o,n_o,cap_o,g_o,b_o,out,md,es,ck,K,f,rfl,ha_o,hdm,hkn,hrs,hmc⟩:=hR
 replace hm:=hm.Jt hmc
 obtain rfl:=ha_o.QB Jq (by decide)
 obtain rfl:=hac K (fun v hv=>(hkn.part v).2 (.inr hv)) hrs
 obtain rfl:es=[]:=by cases es with | nil=>rfl | cons x r=>exact absurd ((hdm.keys x.1).1 (by simp)) (by simp)
 refine au 11 ?_
 refine Ja rfl rfl (y_lenM rfl rfl un110 (hm.nt 1 rfl)) ?_
 refine Ja rfl rfl (JA (c:=false) (XE rfl rfl) (LN (by simp))) ?_
 refine au 14 ?_
 exact ⟨p_o,_,cap_o,g_o,b_o,out,rfl,ha_o,hkn,(hm.pick [0] rfl)⟩
theorem o_cyclic(n m:Nat)(E:List (Int×Int))(Z:List (Nat×Blk))(w0:World)(hZ:Jr w0 Z)(hz:QP 239 3 n E m Z)(hE:E.length≤1000000)(sk:Option Addr)(csk:Nat)(ss:List Int)(hs:Rd w0 sk (ss.flatMap Cx.encI))(hsl:ss.length≤1000000):C Tryz.prog 199 [.pointer (some ⟨m,0,none⟩),.slice sk ss.length csk] w0 fun v w'=>∃ (p:Option Addr) (k c g:Nat) (b:Blk) (l:List Int),v=.slice p k c∧Acc 3 1 p k c (l.flatMap Cx.encI) g b∧l.Pairwise (·<·)∧(∀ v,v∈l ↔  Pl.Path (Pl.wo E ss) v v)∧l.length≤n∧Mem w0 w' No [(g,b)]:=by
 have hEl:=hE
 have hle:n≤1048576:=by obtain ⟨_,_,_,_,_,_,_,_,_,hg,_⟩:=hz; exact hg.le
 obtain ⟨lg,hg0⟩:∃ lg,w0.heap[m]?=some (Blk.row 239 (.int .i64 (n:Int)::lg)).Jd:=by obtain ⟨_,_,_,_,_,_,_,_,_,_,rfl⟩:=hz; exact ⟨_,hZ.get (k:=0) rfl⟩
 have hok:∀ e∈E,0≤e.1∧e.1<n∧0≤e.2∧e.2<n:=by obtain ⟨_,_,_,_,_,_,_,_,_,hg,_⟩:=hz; exact fun e he=>by have:=hg.ok e he; omega
 refine C_o Tryz.func199 fun κ _ Je Jc hm=>?_
 refine au 9 ?_
 refine cT rfl rfl rfl (o_remove n m E Z _ (hZ.ext hm.to) hz hEl sk csk ss (hs.Jj hm.to) hsl) fun v w hR=>?_
 obtain ⟨p_o,n_o,cap_o,g_o,b_o,out,md,es,ck,K,f,rfl,ha_o,hdm,hkn,hrs,hmc⟩:=hR
 replace hm:=hm.Jt hmc
 obtain rfl:=ha_o.QB Jq (by decide)
 refine au 11 ?_
 refine cT rfl rfl rfl (g_without n m E Z _ (hZ.ext hm.to) hz hEl sk csk ss (hs.Jj hm.to) hsl) fun v w hR=>?_
 obtain ⟨E1,mh,Zh,rfl,hz1,hel1,hE1,hmc⟩:=hR
 replace hm:=hm.XR hmc
 have hpw:∀ a b,Pl.Path E1 a b↔Pl.Path (Pl.wo E ss) a b:=fun a b=>⟨Pl.Path.sub fun e he=>Pl.Vp.2 ((hE1 e).1 he),Pl.Path.sub fun e he=>(hE1 e).2 (Pl.Vp.1 he)⟩
 refine au 6 ?_
 replace hm:=hm.JP
 have ha_u:=Acc.nil 3 1 none 0
 refine au 6 ?_
 refine cA rfl rfl rfl (g_len n m _ _ (Qp hm.to hg0)) hm fun w hm=>?_
 refine au 4 ?_
 refine Jg (ι:=Nat×Ow×List Int) rfl (ks:=[4,6,7,22]) (.cons rfl (.cons rfl (.cons rfl (.cons rfl .nil)))) (fun x=>[(23,.int .i64 (x.1:Int)),(8,.slice x.2.1.p x.2.1.n x.2.1.cap)]) (fun x w=>Mem w0 w No ((x.2.1.g,x.2.1.b)::(md,mgB kvI es ck)::Zh)∧Acc 3 1 x.2.1.p x.2.1.n x.2.1.cap (x.2.2.flatMap Cx.encI) x.2.1.g x.2.1.b∧x.2.2.Pairwise (·<·)∧(∀ v,v∈x.2.2↔(0≤v∧v<(x.1:Int))∧Pl.Path (Pl.wo E ss) v v)∧x.1≤n∧x.2.2.length≤x.1) (fun x=>n-x.1) (0,⟨none,0,0,0,.gap⟩,[]) (⟨(hm.Jp [0,2] 3 rfl),ha_u,by simp,fun v=>⟨fun h=>by simp at h,fun h=>absurd h.1 (by omega)⟩,LL _,LL _⟩) ⟨rfl,rfl,trivial⟩ (fun x w hM=>?_)
 obtain ⟨k,⟨p_u,n_u,cap_u,g_u,b_u⟩,l⟩:=x
 obtain ⟨hm,ha_u,hl1,hl2,hk,hll⟩:=hM
 simp only at hm ha_u hl1 hl2 hk hll ⊢
 obtain rfl:=ha_u.QB Jq (by decide)
 refine au 6 ?_
 refine cd (fun hc0=>?_) fun hc0=>?_
 ·
  simp only [dT] at hc0
  refine au 14 ?_
  refine Ja rfl rfl (y_lookC (kk:=(k:Int)) rfl rfl rfl mg110 (hm.nt 1 rfl)) ?_
  refine au 2 ?_
  refine Ja rfl rfl (y_v (J7 rfl rfl) (LM Value.bool (hdm.has k))) ?_
  refine au 5 ?_
  by_cases hkK:(k:Int)∈K
  ·
   refine au 1 ?_
   refine Ja rfl rfl (JA (c:=true) (Jx rfl) (LQ hkK)) ?_
   refine au 3 ?_
   refine cT rfl rfl rfl (g_reach n mh E1 Zh _ (Jr.right (A:=[_,_]) hm.Jz) hz1 hel1 k) fun v w hR=>?_
   obtain ⟨p_v,n_v,cap_v,g_v,b_v,xs,rfl,ha_v,hxl,hxs,hmc⟩:=hR
   replace hm:=hm.Jt hmc
   obtain rfl:=ha_v.QB Jq (by decide)
   have hxl2:(Pl.srt xs).length≤1000000:=by rw [(Pl.Q3 _).length_eq]; exact hxl
   refine au 1 ?_
   refine cA rfl rfl rfl (c_cont p_v cap_v (Pl.srt xs) k _ (ha_v.rd hm 0 rfl) (by omega)) hm fun w hm=>?_
   refine au 3 ?_
   refine cd (fun hc1=>?_) fun hc1=>?_
   ·
    simp only [dT] at hc1
    have hpk:Pl.Path (Pl.wo E ss) k k:=(hpw _ _).1 ((hxs _).1 ((Pl.Q3 _).mem_iff.1 hc1))
    refine au 3 ?_
    refine Jb (l:=[_]) rfl rfl sl134.h z3.h rfl rfl rfl rfl rfl rfl rfl hm trivial fun m1 w hg_m1 hm hh=>?_
    refine Jy rfl rfl rfl rfl rfl rfl sl134.h sl134.h z3.h rfl rfl (Rd.JL (hm.get (k:=0) rfl)) rfl ha_u hm 2 rfl (by omega) (by omega) fun p_u cap_u g_u b_u w ha_u hm=>?_
    refine au 8 ?_
    exact next (k+1,⟨p_u,_,cap_u,g_u,b_u⟩,l++[(k:Int)]) (by simp only; omega) ⟨(hm.Jp [2,3] 4 rfl),ha_u.to (by simp only; rw [Lh]; rfl),cyc_add hl1 hl2 hpk,cyc_mem hl2 hpk,by simp only; omega,by simp only [Lc,LG]; omega⟩ ⟨nx k,rfl,rfl,rfl,rfl,rfl,trivial⟩
   ·
    simp only [dF] at hc1
    have hpk:¬ Pl.Path (Pl.wo E ss) k k:=fun h=>hc1 ((Pl.Q3 _).mem_iff.2 ((hxs _).2 ((hpw _ _).2 h)))
    refine au 7 ?_
    exact next (k+1,⟨p_u,_,cap_u,g_u,b_u⟩,l) (by simp only; omega) ⟨(hm.Jp [1,2] 3 rfl),ha_u,hl1,cyc_no hl2 hpk,by simp only; omega,by simp only; omega⟩ ⟨nx k,rfl,rfl,rfl,rfl,rfl,trivial⟩
  ·
   have hpk:¬ Pl.Path (Pl.wo E ss) k k:=fun h=>hkK (hkn.cyc hok h)
   refine au 1 ?_
   refine Ja rfl rfl (JA (c:=false) (Jx rfl) (LN hkK)) ?_
   refine au 17 ?_
   exact next (k+1,⟨p_u,_,cap_u,g_u,b_u⟩,l) (by simp only; omega) ⟨(hm.Jp [0,1] 2 rfl),ha_u,hl1,cyc_no hl2 hpk,by simp only; omega,by simp only; omega⟩ ⟨nx k,rfl,rfl,rfl,rfl,rfl,trivial⟩
 ·
  simp only [dF] at hc0
  have hke:k=n:=by omega
  rw [hke] at hl2
  refine au 13 ?_
  exact ⟨p_u,_,cap_u,g_u,b_u,l,rfl,ha_u,hl1,fun v=>by rw [hl2]; exact ⟨fun h=>h.2,fun h=>⟨by have:=Pl.Vh.1 ((hkn.part v).2 (.inr (hkn.cyc hok h))); omega,h⟩⟩,by omega,(hm.pick [0] rfl)⟩
end Go.Proofs.YtaehgpeenaomcaaGreat
namespace Go.Pl
open Go Go.Cx Go.Proofs.YtaehgpeenaomcaaGreat
def wt(ws:List Int)(v:Int):Int:=if v<0∨(ws.length:Int)≤v then 0 else ws.getD v.toNat 0
def small(key:Int→Int):List Int→Int
 | []=>0
 | x::r=>r.foldl (fun b y=>if key y<key b then y else b) x
def CycL(E:List (Int×Int))(ss l:List Int):Prop:=l.Pairwise (·<·)∧∀ v,v∈l↔Pl.Path (Pl.wo E ss) v v
end Go.Pl
namespace Go.Proofs.YtaehgpeenaomcaaGreat
open Go Go.Cx
theorem Zv{key:Int→Int}{xs:List Int}{k:Nat}{y:Int}(h:xs[k]?=some y):Pl.small key (xs.take (k+1))=if k=0∨key y<key (Pl.small key (xs.take k)) then y else Pl.small key (xs.take k):=by
 cases xs with
 | nil=>simp at h
 | cons x r=>
  cases k with
  | zero => 
   simp only [L2,Option.some.injEq] at h
   subst h
   rfl
  | succ k=>
   simp only [LW] at h
   rw [List.take_succ_cons,List.take_succ_cons]
   unfold Pl.small
   simp only
   rw [LC,h,List.foldl_append]
   simp
theorem del_i(p_s:Option Addr)(cap_s:Nat)(xs:List Int)(g_s:Nat)(b_s:Blk)(fi:FuncId)(l2:List Value)(pred:Int→Bool)(w0:World)(ha_s:Acc 3 1 p_s xs.length cap_s (xs.flatMap Cx.encI) g_s b_s)(hb_s:b_s.real=true→w0.heap[g_s]?=some b_s.Jd)(hlen:xs.length≤4611686018427387903)(hg:JH Tryz.prog fi=true)(hf:∀ x w1,Ext (fun k=>k=g_s∧b_s.real=true) w0 w1→C Tryz.prog fi (.int .i64 x::l2) w1 fun v w2=>v=.bool (pred x)∧Ext No w1 w2):C Tryz.prog 200 [.slice p_s xs.length cap_s,.func (.func fi) #[] ⟨l2⟩] w0 fun v w'=>∃ b',v=.slice p_s (xs.filter fun x=>!pred x).length cap_s∧Acc 3 1 p_s (xs.filter fun x=>!pred x).length cap_s ((xs.filter fun x=>!pred x).flatMap Cx.encI) g_s b'∧Mem w0 w' (fun k=>k=g_s∧b_s.real=true) [(g_s,b')]:=by
 refine Vk Tryz.func200 rfl rfl rfl fun κ _ Je Jc=>?_
 have hm:=Mem.startB hb_s
 refine au 9 ?_
 refine cA rfl rfl rfl (idxf_int p_s cap_s xs fi l2 pred _ (ha_s.rd hm 0 rfl) (by omega) hg (fun x w1 hx hE=>hf x w1 (hm.to.trans hE.weak))) hm fun w hm=>?_
 refine au 10 ?_
 refine cd (fun hc0=>?_) fun hc0=>?_
 ·
  simp only [dT] at hc0
  have hall:(xs.filter fun x=>!pred x)=xs:=by rcases X9 pred xs with ⟨_,h⟩ | ⟨i,x,h,_⟩; exact h; omega
  refine au 9 ?_
  exact ⟨b_s,by rw [hall],by rw [hall]; exact ha_s,(hm.pick [0] rfl)⟩
 ·
  simp only [dF] at hc0
  obtain ⟨i0,x0,hi0,hx0,hp0,ht0⟩:=(X9 pred xs).resolve_left (fun h=>hc0 h.1)
  have hl0:=(Le.1 hx0).1
  rw [hi0]
  obtain rfl:=ha_s.ptr (by omega)
  have hI0:=DelI.start hx0 hp0 ht0
  refine au 11 ?_
  refine Jg (ι:=Nat×Nat×Blk×List Int) rfl (ks:=[0,1,4]) (.cons rfl (.cons rfl (.cons rfl .nil))) (fun x=>[(6,.int .i64 x.1),(5,.int .i64 x.2.1)]) (fun x w=>Mem w0 w (fun k=>k=g_s∧b_s.real=true) [(g_s,x.2.2.1)]∧Acc 3 1 (some ⟨g_s,0,none⟩) xs.length cap_s (x.2.2.2.flatMap Cx.encI) g_s x.2.2.1∧DelI pred xs x.1 x.2.1 x.2.2.2) (fun x=>xs.length-x.1) (i0+1,i0,b_s,xs) (⟨(hm.pick [0] rfl),ha_s,hI0⟩) ⟨nx i0,rfl,trivial⟩ (fun x w hM=>?_)
  obtain ⟨hm,ha_s,hI⟩:=hM
  refine au 9 ?_
  refine cd (fun hc1=>?_) fun hc1=>?_
  ·
   simp only [dT] at hc1
   have hzl:=hI.len
   have hlt:=hI.lt
   obtain ⟨e,hi⟩:∃ y_,x.2.2.2[x.1]?=some y_:=⟨_,La (by omega)⟩
   refine au 9 ?_
   refine Ja rfl rfl (J3 rfl sc3.h (ha_s.rd hm 0 rfl).nt Cx.Jq hi rfl) ?_
   refine au 7 ?_
   refine Qf rfl rfl rfl rfl hg (hf e _ hm.to) fun v w hR=>?_
   obtain ⟨rfl,hE⟩:=hR
   refine ⟨trivial,?_⟩
   replace hm:=hm.ext hE
   refine au 3 ?_
   refine cd (fun hc2=>?_) fun hc2=>?_
   ·
    simp only [bE] at hc2
    refine au 6 ?_
    refine a_storeE rfl rfl rfl rfl sz3 rfl rfl ha_s (by omega) hm 0 rfl fun b_s w ha_s hm=>?_
    replace ha_s:=ha_s.to (upds_fm Cx.Jq (by omega) e)
    refine au 14 ?_
    refine next (x.1+1,x.2.1+1,b_s,x.2.2.2.set x.2.1 e) (by simp only; omega) ⟨(hm.pick [0] rfl),ha_s,hI.put hi hc2⟩ ⟨nx x.1,nx x.2.1,rfl,rfl,rfl,trivial⟩
   ·
    simp only [bF] at hc2
    refine au 8 ?_
    refine next (x.1+1,x.2.1,x.2.2.1,x.2.2.2) (by simp only; omega) ⟨(hm.pick [0] rfl),ha_s,hI.skip hi hc2⟩ ⟨nx x.1,rfl,rfl,rfl,rfl,trivial⟩
  ·
   simp only [dF] at hc1
   obtain ⟨hd1,hd2,hd3⟩:=hI.done (by omega)
   refine au 9 ?_
   refine Ja rfl rfl (JE (ln:=x.2.1) (hn:=xs.length) rfl sl134.h ⟨_,rfl⟩ rfl (by omega) (by have:=ha_s.le; omega) (fun _ ad e=>by cases e; rfl)) ?_
   refine a_clearL rfl rfl sl134.h z3.h rfl (by decide) rfl (by omega) ha_s hm 0 rfl fun b_s w ha_s hm=>?_
   refine au 6 ?_
   refine Ja rfl rfl (JE (ln:=0) (hn:=x.2.1) rfl sl134.h rfl ⟨_,rfl⟩ (by omega) (by have:=ha_s.le; omega) (fun _ ad e=>by cases e; rfl)) ?_
   refine au 5 ?_
   exact ⟨b_s,by rw [hd2,XW (fun a e=>by cases e; rfl)]; rfl,by rw [hd2]; exact (ha_s.head hd3).to ((Y1 _ _ _).trans ((take_fm Cx.Jq _ _).trans (by rw [hd1]))),(hm.pick [0] rfl)⟩
theorem e_weight(pw:Option Addr)(cw:Nat)(ws:List Int)(a:Int)(w0:World)(hw:Rd w0 pw (ws.flatMap Cx.encI))(hwl:ws.length≤1000000):C Tryz.prog 204 [.slice pw ws.length cw,.int .i64 a] w0 fun v w'=>v=.int .i64 (Pl.wt ws a)∧Ext No w0 w':=by
 refine C_o Tryz.func204 fun κ _ Je Jc hm=>?_
 refine au 13 ?_
 refine JK rfl rfl rfl (fun hc=>(y_len (gx hc rfl) rfl sl134.h)) ?_
 refine au 4 ?_
 refine cd (fun hc0=>?_) fun hc0=>?_
 ·
  simp only [bB,dT] at hc0
  refine au 8 ?_
  exact ⟨by unfold Pl.wt; rw [LI (by omega)],hm.to⟩
 ·
  simp only [bD,dF] at hc0
  obtain ⟨i,rfl⟩:∃ i:Nat,a=(i:Int):=⟨a.toNat,by omega⟩
  obtain ⟨y,hi⟩:∃ y_,ws[i]?=some y_:=⟨_,La (by omega)⟩
  obtain ⟨qb,qo,rfl⟩:=hw.atI Jq (by decide) hi
  refine au 7 ?_
  refine Ja rfl rfl (J3 rfl sc3.h (hw.Jj hm.to).nt Jq hi rfl) ?_
  refine au 5 ?_
  exact ⟨by unfold Pl.wt; rw [LH (by omega),LD,List.getD_eq_getElem?_getD,hi]; rfl,hm.to⟩
theorem e_next1(a:Int)(m1:Nat)(pk:Option Addr)(ck:Nat)(ks:List Int)(w0:World)(h1:w0.heap[m1]?=some (Blk.row 134 [.slice pk ks.length ck]).Jd)(hk:Rd w0 pk (ks.flatMap Cx.encI))(hkl:ks.length≤1000000):C Tryz.prog 201 [.int .i64 a,.pointer (some ⟨m1,0,none⟩)] w0 fun v w'=>v=.bool (decide (a∈ks))∧Ext No w0 w':=by
 refine C_o Tryz.func201 fun κ _ Je Jc hm=>?_
 refine au 9 ?_
 refine cA rfl rfl rfl (c_cont pk ck ks a _ (hk.Jj hm.to) (by omega)) hm fun w hm=>?_
 refine au 5 ?_
 exact ⟨rfl,hm.to⟩
theorem e_next2(a:Int)(m1:Nat)(pw:Option Addr)(cw:Nat)(ws:List Int)(w0:World)(h1:w0.heap[m1]?=some (Blk.row 134 [.slice pw ws.length cw]).Jd)(hw:Rd w0 pw (ws.flatMap Cx.encI))(hwl:ws.length≤1000000):C Tryz.prog 203 [.int .i64 a,.pointer (some ⟨m1,0,none⟩)] w0 fun v w'=>v=.int .i64 (Pl.wt ws a)∧Ext No w0 w':=by
 refine C_o Tryz.func203 fun κ _ Je Jc hm=>?_
 refine au 9 ?_
 refine cA rfl rfl rfl (e_weight pw cw ws a _ (hw.Jj hm.to) hwl) hm fun w hm=>?_
 refine au 5 ?_
 exact ⟨rfl,hm.to⟩
theorem e_small(p:Option Addr)(cap:Nat)(xs:List Int)(fi:FuncId)(lb:List Value)(key:Int→Int)(w0:World)(hx:Rd w0 p (xs.flatMap Cx.encI))(hl:xs.length≤2000000)(hg:JH Tryz.prog fi=true)(hf:∀ x w1,Ext No w0 w1→C Tryz.prog fi (.int .i64 x::lb) w1 fun v w2=>v=.int .i64 (key x)∧Ext No w1 w2):C Tryz.prog 202 [.slice p xs.length cap,.func (.func fi) #[] ⟨lb⟩] w0 fun v w'=>v=.tuple ⟨[.int .i64 (Pl.small key xs),.bool (decide (0<xs.length))]⟩∧Ext No w0 w':=by
 refine C_o Tryz.func202 fun κ _ Je Jc hm=>?_
 refine au 20 ?_
 refine Jg (ι:=Nat×Int) rfl (ks:=[0,1,4,5,9,10]) (.cons rfl (.cons rfl (.cons rfl (.cons rfl (.cons rfl (.cons rfl .nil)))))) (fun x=>[(11,.int .i64 (x.1:Int)),(6,.int .i64 x.2)]) (fun x w=>Mem w0 w No []∧x.2=Pl.small key (xs.take x.1)∧x.1≤xs.length) (fun x=>xs.length-x.1) (0,0) (⟨hm,rfl,LL _⟩) ⟨rfl,rfl,trivial⟩ (fun x w hM=>?_)
 obtain ⟨k,bst⟩:=x
 obtain ⟨hm,hb,hk⟩:=hM
 simp only at hm hb hk ⊢
 refine au 6 ?_
 refine cd (fun hc0=>?_) fun hc0=>?_
 ·
  simp only [dT] at hc0
  obtain ⟨y,hi⟩:∃ y_,xs[k]?=some y_:=⟨_,La (by omega)⟩
  obtain ⟨qb,qo,rfl⟩:=hx.atI Jq (by decide) hi
  refine au 8 ?_
  refine Ja rfl rfl (J3 rfl sc3.h (hx.Jj hm.to).nt Jq hi rfl) ?_
  refine au 5 ?_
  rcases Nat.eq_zero_or_pos k with hk0 | hk0
  ·
   have hbk:k=0∨key y<key (Pl.small key (xs.take k)):=.inl hk0
   refine au 2 ?_
   refine Ja rfl rfl (JA (c:=true) (V3 rfl rfl) (LQ (by omega))) ?_
   refine au 22 ?_
   exact next (k+1,y) (by simp only; omega) ⟨(hm.pick [] rfl),by simp only; rw [Zv hi,LI hbk],by simp only; omega⟩ ⟨nx k,rfl,rfl,rfl,rfl,rfl,rfl,rfl,trivial⟩
  ·
   refine au 2 ?_
   refine Ja rfl rfl (JA (c:=false) (V3 rfl rfl) (LN (by omega))) ?_
   refine au 3 ?_
   refine Qf rfl rfl rfl rfl hg (hf y _ hm.to) fun v w hR=>?_
   obtain ⟨rfl,hE⟩:=hR
   refine ⟨trivial,?_⟩
   replace hm:=hm.ext hE
   refine au 2 ?_
   refine Qf rfl rfl rfl rfl hg (hf bst _ hm.to) fun v w hR=>?_
   obtain ⟨rfl,hE⟩:=hR
   refine ⟨trivial,?_⟩
   replace hm:=hm.ext hE
   refine au 4 ?_
   refine cd (fun hc1=>?_) fun hc1=>?_
   ·
    simp only [dT] at hc1
    have hbk:k=0∨key y<key (Pl.small key (xs.take k)):=.inr (by rw [← hb]; exact hc1)
    refine au 10 ?_
    exact next (k+1,y) (by simp only; omega) ⟨(hm.pick [] rfl),by simp only; rw [Zv hi,LI hbk],by simp only; omega⟩ ⟨nx k,rfl,rfl,rfl,rfl,rfl,rfl,rfl,trivial⟩
   ·
    simp only [dF] at hc1
    have hbk:¬ (k=0∨key y<key (Pl.small key (xs.take k))):=by rw [← hb]; omega
    refine au 7 ?_
    exact next (k+1,bst) (by simp only; omega) ⟨(hm.pick [] rfl),by simp only; rw [Zv hi,LH hbk,hb],by simp only; omega⟩ ⟨nx k,rfl,rfl,rfl,rfl,rfl,rfl,rfl,trivial⟩
 ·
  simp only [dF] at hc0
  have hke:k=xs.length:=by omega
  rw [hke,Lv] at hb
  refine au 10 ?_
  refine Ja rfl rfl (y_v (XE rfl rfl) (LM Value.bool (by rw [Bool.eq_iff_iff]; simp only [dT]; omega:decide ((xs.length:Int)>0)=decide (0<xs.length)))) ?_
  refine au 6 ?_
  exact ⟨by rw [hb],hm.to⟩
theorem e_next(n m:Nat)(E:List (Int×Int))(Z:List (Nat×Blk))(w0:World)(hZ:Jr w0 Z)(hz:QP 239 3 n E m Z)(hE:E.length≤1000000)(pr:Option Addr)(cr:Nat)(ss:List Int)(hs:Rd w0 pr (ss.flatMap Cx.encI))(hsl:ss.length≤1000000)(pw:Option Addr)(cw:Nat)(ws:List Int)(hw:Rd w0 pw (ws.flatMap Cx.encI))(hwl:ws.length≤1000000)(pk:Option Addr)(ck:Nat)(ks:List Int)(hk:Rd w0 pk (ks.flatMap Cx.encI))(hkl:ks.length≤1000000):C Tryz.prog 159 [.pointer (some ⟨m,0,none⟩),.slice pw ws.length cw,.slice pr ss.length cr,.slice pk ks.length ck] w0 fun v w'=>∃ l:List Int,Pl.CycL E ss l∧l.length≤n∧v=.tuple ⟨[.int .i64 (Pl.small (Pl.wt ws) (l.filter fun x=>!decide (x∈ks))),.bool (decide (0<(l.filter fun x=>!decide (x∈ks)).length)),.bool (decide (0<l.length))]⟩∧Ext No w0 w':=by
 have hEl:=hE
 have hle:n≤1048576:=by obtain ⟨_,_,_,_,_,_,_,_,_,hg,_⟩:=hz; exact hg.le
 refine C_o Tryz.func159 fun κ _ Je Jc hm=>?_
 refine au 2 ?_
 refine bT hm fun m5 w hm=>?_
 refine bT hm fun m7 w hm=>?_
 refine au 9 ?_
 refine cT rfl rfl rfl (o_cyclic n m E Z _ (hZ.ext hm.to) hz hEl pr cr ss (hs.Jj hm.to) hsl) fun v w hR=>?_
 obtain ⟨p_l,n_l,cap_l,g_l,b_l,l,rfl,ha_l,hl1,hl2,hl3,hmc⟩:=hR
 replace hm:=hm.Jt hmc
 obtain rfl:=ha_l.QB Jq (by decide)
 refine au 7 ?_
 refine Ja rfl rfl (y_v (XE rfl rfl) (LM Value.bool (by rw [Bool.eq_iff_iff]; simp only [dT]; omega:decide ((l.length:Int)>0)=decide (0<l.length)))) ?_
 refine au 7 ?_
 refine cT rfl rfl rfl (del_i p_l cap_l l g_l b_l 201 [.pointer (some ⟨m7,0,none⟩)] (fun x=>decide (x∈ks)) _ ha_l (fun h9=>hm.getR (k:=0) rfl h9) (by omega) go201 (fun x w9 hE9=>e_next1 x m7 pk ck ks w9 ((hE9.same m7 (Lb.1 (hm.get (k:=1) rfl)).1 (hm.neB 1 0 rfl rfl rfl)).trans (hm.get (k:=1) rfl)) ((hk.Jj hm.to).Yu hE9 (fun hne ad hp ⟨e9,hb9⟩=>hm.apartX hk (fun _ _ _ h=>h) hne ad hp (JD.2 ⟨b_l,e9▸by simp,hb9⟩))) hkl)) fun v w hR=>?_
 obtain ⟨b_l,rfl,ha_l,hmc⟩:=hR
 replace hm:=hm.callB 0 rfl hmc
 have hfl:=List.length_filter_le (fun x=>!decide (x∈ks)) l
 refine au 7 ?_
 refine cA rfl rfl rfl (e_small p_l cap_l (l.filter fun x=>!decide (x∈ks)) 203 [.pointer (some ⟨m5,0,none⟩)] (Pl.wt ws) _ (ha_l.rd hm 0 rfl) (by omega) go203 (fun x w9 hE9=>e_next2 x m5 pw cw ws w9 (Qp hE9 (hm.get (k:=2) rfl)) (hw.Jj (hm.to.trans hE9)) hwl)) hm fun w hm=>?_
 refine au 18 ?_
 refine toR (fin Je rfl (.tmp rfl (.tmp rfl (.tmp rfl .nil))) .more ?_)
 exact ⟨l,⟨hl1,hl2⟩,hl3,rfl,hm.to⟩
end Go.Proofs.YtaehgpeenaomcaaGreat
namespace Go.Pl
open Go Go.Cx Go.Proofs.YtaehgpeenaomcaaGreat
inductive Evs(E:List (Int×Int))(ws ks:List Int):List Int→Prop
 | nil:Pl.Evs E ws ks []
 | step {ss l:List Int}:Pl.Evs E ws ks ss→Pl.CycL E ss l→0<(l.filter fun x=>!decide (x∈ks)).length→Pl.Evs E ws ks (ss++[Pl.small (Pl.wt ws) (l.filter fun x=>!decide (x∈ks))])
end Go.Pl
namespace Go.Proofs.YtaehgpeenaomcaaGreat
open Go Go.Cx
structure EvI(E:List (Int×Int))(n:Nat)(ws ks:List Int)(ok cyc:Bool)(out:List Int):Prop where
 ev:Pl.Evs E ws ks out
 nd:out.Nodup
 rg:∀ v∈out,0≤v∧v<n
 fin:ok=false→(∀ v,¬ Pl.Path (Pl.wo E out) v v)∧cyc=false
theorem small_mem{key:Int→Int}:∀ {xs:List Int},0<xs.length→Pl.small key xs∈xs
 | [],h=>absurd h (Nat.lt_irrefl _)
 | x::r,_=>by
  have:∀ (r:List Int) (b:Int),r.foldl (fun b y=>if key y<key b then y else b) b=b∨r.foldl (fun b y=>if key y<key b then y else b) b∈r:=by
   intro r
   induction r with
   | nil=>intro b; exact .inl rfl
   | cons y r ih=>
    intro b
    rw [List.foldl_cons]
    rcases ih (if key y<key b then y else b) with h | h
    · rw [h]
      split
      · exact .inr (Lo ..)
      · exact .inl rfl
    · exact .inr (LX _ h)
  show r.foldl _ x∈x::r
  rcases this r x with h | h
  · rw [h]; exact Lo ..
  · exact LX _ h
theorem ch_less{n:Nat}{p:Prop}[Decidable p]{out:List Int}{v:Int}(h:(if p then out++[v] else out).length≤n):2*(n-(if p then out++[v] else out).length)+(if decide p=true then 1 else 0)<2*(n-out.length)+1:=by
 by_cases hp:p
 · simp only [hp,if_true,decide_true,Lc,LG] at *
   omega
 · simp only [hp,if_false,decide_false,L0] at *
   omega
theorem EvI.le{E:List (Int×Int)}{n:Nat}{ws ks out:List Int}{ok cyc:Bool}(h:EvI E n ws ks ok cyc out):out.length≤n:=by
 have:=Pl.VE (m:=Pl.ids n) h.nd fun v hv=>Pl.XK.2 (h.rg v hv)
 rwa [Pl.Qj] at this
theorem EvI.step{E:List (Int×Int)}{n:Nat}{ws ks out l:List Int}{ok cyc:Bool}(h:EvI E n ws ks ok cyc out)(hE:∀ e∈E,0≤e.1∧e.1<n∧0≤e.2∧e.2<n)(hl:Pl.CycL E out l)(hks:∀ ss v,Pl.Path (Pl.wo E ss) v v→v∉ks) :
 EvI E n ws ks (decide (0<(l.filter fun x=>!decide (x∈ks)).length)) (decide (0<l.length)) (if 0<(l.filter fun x=>!decide (x∈ks)).length then out++[Pl.small (Pl.wt ws) (l.filter fun x=>!decide (x∈ks))] else out):=by
 have hfl:(l.filter fun x=>!decide (x∈ks))=l:=List.filter_eq_self.2 fun v hv=>by have:=hks out v ((hl.2 v).1 hv); simp [this]
 by_cases hp:0<(l.filter fun x=>!decide (x∈ks)).length
 · rw [LI hp]
   have hm:=small_mem (key:=Pl.wt ws) hp
   have hev:=Pl.Evs.step h.ev hl hp
   generalize Pl.small (Pl.wt ws) (l.filter fun x=>!decide (x∈ks))=v at hm hev
   rw [hfl] at hm
   have hpv:=(hl.2 v).1 hm
   obtain ⟨u,hu⟩:∃ u,(u,v)∈Pl.wo E out:=by cases hpv with | one he=>exact ⟨_,he⟩ | more _ he=>exact ⟨_,he⟩
   obtain ⟨h1,_,h3⟩:=Pl.Vp.1 hu
   have hb:=hE _ h1
   refine ⟨hev,?_,fun w hw=>?_,fun hf=>absurd hp (by simpa using hf)⟩
   · rw [Kg]
     refine ⟨h.nd,by simp,fun a ha b hb9 e=>?_⟩
     rw [Lf.1 hb9] at e
     exact h3 (e▸ha)
   · rcases Ls.1 hw with hw | hw
     · exact h.rg w hw
     · rw [Lf.1 hw]; exact ⟨hb.2.2.1,hb.2.2.2⟩
 · rw [LH hp]
   rw [hfl] at hp
   have hl0:=Ll.1 (by omega:l.length=0)
   refine ⟨h.ev,h.nd,h.rg,fun _=>⟨fun v hv=>?_,by simpa using hl0⟩⟩
   have:=(hl.2 v).2 hv
   rw [hl0] at this
   simp at this
theorem e_ch1(n m:Nat)(E:List (Int×Int))(Z:List (Nat×Blk))(w0:World)(hZ:Jr w0 Z)(hz:QP 239 3 n E m Z)(hE:E.length≤1000000)(pw:Option Addr)(cw:Nat)(ws:List Int)(hw:Rd w0 pw (ws.flatMap Cx.encI))(hwl:ws.length≤1000000)(pk:Option Addr)(ck:Nat)(ks:List Int)(hk:Rd w0 pk (ks.flatMap Cx.encI))(hkl:ks.length≤1000000)(m3 m4 m8 m5 g:Nat)(b:Blk)(p:Option Addr)(c:Nat)(ss:List Int)(ha_o:Acc 3 1 p ss.length c (ss.flatMap Cx.encI) g b)(hO:Jr w0 [(m3,.row 131 [.pointer (some ⟨m,0,none⟩)]),(m4,.row 134 [.slice pw ws.length cw]),(m8,.row 134 [.slice p ss.length c]),(m5,.row 134 [.slice pk ks.length ck]),(g,b)])(hsl:ss.length≤1000000):C Tryz.prog 158 [.pointer (some ⟨m3,0,none⟩),.pointer (some ⟨m4,0,none⟩),.pointer (some ⟨m8,0,none⟩),.pointer (some ⟨m5,0,none⟩)] w0 fun v w'=>∃ (l:List Int) (p':Option Addr) (c' g':Nat) (b':Blk),Pl.CycL E ss l∧v=.tuple ⟨[.bool (decide (0<(l.filter fun x=>!decide (x∈ks)).length)),.bool (decide (0<l.length))]⟩∧Acc 3 1 p' (if 0<(l.filter fun x=>!decide (x∈ks)).length then ss++[Pl.small (Pl.wt ws) (l.filter fun x=>!decide (x∈ks))] else ss).length c' ((if 0<(l.filter fun x=>!decide (x∈ks)).length then ss++[Pl.small (Pl.wt ws) (l.filter fun x=>!decide (x∈ks))] else ss).flatMap Cx.encI) g' b'∧Mem w0 w' (Mn (reals [(m3,.row 131 [.pointer (some ⟨m,0,none⟩)]),(m4,.row 134 [.slice pw ws.length cw]),(m8,.row 134 [.slice p ss.length c]),(m5,.row 134 [.slice pk ks.length ck]),(g,b)])) [(m3,.row 131 [.pointer (some ⟨m,0,none⟩)]),(m4,.row 134 [.slice pw ws.length cw]),(m8,.row 134 [.slice p' (if 0<(l.filter fun x=>!decide (x∈ks)).length then ss++[Pl.small (Pl.wt ws) (l.filter fun x=>!decide (x∈ks))] else ss).length c']),(m5,.row 134 [.slice pk ks.length ck]),(g',b')]:=by
 refine Vk Tryz.func158 rfl rfl rfl fun κ _ Je Jc=>?_
 have hm:=hO.start
 refine au 12 ?_
 refine cT rfl rfl rfl (e_next n m E Z _ hZ hz hE p c ss (ha_o.rd hm 4 rfl) hsl pw cw ws hw hwl pk ck ks hk hkl) fun v w hR=>?_
 obtain ⟨l,hcy,hll,rfl,hE9⟩:=hR
 replace hm:=hm.ext hE9
 refine au 15 ?_
 refine cd (fun hc0=>?_) fun hc0=>?_
 ·
  simp only [dT] at hc0
  refine au 3 ?_
  refine Jb (l:=[_]) rfl rfl sl134.h z3.h rfl rfl rfl rfl rfl rfl rfl hm trivial fun m1 w hg_m1 hm hh=>?_
  refine Jy rfl rfl rfl rfl rfl rfl sl134.h sl134.h z3.h rfl rfl (Rd.JL (hm.get (k:=0) rfl)) rfl ha_o hm 5 rfl (by omega) (by omega) fun p_o cap_o g_o b_o w ha_o hm=>?_
  refine st hm 3 fun w hm=>?_
  refine au 12 ?_
  refine ⟨l,p_o,cap_o,g_o,b_o,hcy,rfl,?_,?_⟩
  · rw [LI hc0,Lc]; exact ha_o.to (by rw [Lh]; rfl)
  · rw [LI hc0,Lc]; exact (hm.pick [1,2,3,4,5] rfl)
 ·
  simp only [dF] at hc0
  refine au 12 ?_
  exact ⟨l,p,c,g,b,hcy,rfl,by rw [LH hc0]; exact ha_o,by rw [LH hc0]; exact hm⟩
theorem e_choose(n m:Nat)(E:List (Int×Int))(Z:List (Nat×Blk))(w0:World)(hZ:Jr w0 Z)(hz:QP 239 3 n E m Z)(hE:E.length≤1000000)(pw:Option Addr)(cw:Nat)(ws:List Int)(hw:Rd w0 pw (ws.flatMap Cx.encI))(hwl:ws.length≤1000000)(pk:Option Addr)(ck:Nat)(ks:List Int)(hk:Rd w0 pk (ks.flatMap Cx.encI))(hkl:ks.length≤1000000)(hks:∀ ss v,Pl.Path (Pl.wo E ss) v v→v∉ks)(hn:n≤1000000):C Tryz.prog 127 [.pointer (some ⟨m,0,none⟩),.slice pw ws.length cw,.slice pk ks.length ck] w0 fun v w'=>∃ (p:Option Addr) (k c g:Nat) (b:Blk) (out:List Int),v=.tuple ⟨[.slice p k c,.bool true]⟩∧Acc 3 1 p k c (out.flatMap Cx.encI) g b∧Pl.Evs E ws ks out∧(∀ v,¬ Pl.Path (Pl.wo E out) v v)∧out.Nodup∧(∀ v∈out,0≤v∧v<n)∧Mem w0 w' No [(g,b)]:=by
 have hEl:=hE
 have hle:n≤1048576:=by obtain ⟨_,_,_,_,_,_,_,_,_,hg,_⟩:=hz; exact hg.le
 have hok9:∀ e∈E,0≤e.1∧e.1<n∧0≤e.2∧e.2<n:=by obtain ⟨_,_,_,_,_,_,_,_,_,hg,_⟩:=hz; exact fun e he=>by have:=hg.ok e he; omega
 refine C_o Tryz.func127 fun κ _ Je Jc hm=>?_
 refine au 2 ?_
 refine bT hm fun m3 w hm=>?_
 refine bT hm fun m4 w hm=>?_
 refine bT hm fun m5 w hm=>?_
 refine au 6 ?_
 refine aT hm fun m8 w hm=>?_
 replace hm:=hm.JP
 have ha_o:=Acc.nil 3 1 none 0
 replace hm:=(hm.pick [4,3,1,2,0] rfl)
 have hei:EvI E n ws ks true true []:=⟨.nil,by simp,by simp,by simp⟩
 refine au 11 ?_
 refine Qf rfl rfl rfl rfl go158 (e_ch1 n m E Z _ (hZ.ext hm.to) hz hEl pw cw ws (hw.Jj hm.to) hwl pk ck ks (hk.Jj hm.to) hkl m3 m4 m8 m5 0 .gap none 0 [] ha_o hm.Jz (Ki hei.le hn)) fun v w hR=>?_
 obtain ⟨l,p_o,cap_o,g_o,b_o,hcy,rfl,ha_o,hmc⟩:=hR
 refine ⟨trivial,?_⟩
 replace hm:=Mem.JQ (A:=[]) hm hmc
 have hei2:=hei.step hok9 hcy hks
 have hei2l:=hei2.le
 refine au 9 ?_
 refine Jg (ι:=Bool×Bool×Ow×List Int) rfl (ks:=[6,7,8,9]) (.cons rfl (.cons rfl (.cons rfl (.cons rfl .nil)))) (fun x=>[(10,.bool x.1),(11,.bool x.2.1)]) (fun x w=>Mem w0 w No [(m3,.row 131 [.pointer (some ⟨m,0,none⟩)]),(m4,.row 134 [.slice pw ws.length cw]),(m8,.row 134 [.slice x.2.2.1.p x.2.2.2.length x.2.2.1.cap]),(m5,.row 134 [.slice pk ks.length ck]),(x.2.2.1.g,x.2.2.1.b)]∧Acc 3 1 x.2.2.1.p x.2.2.2.length x.2.2.1.cap (x.2.2.2.flatMap Cx.encI) x.2.2.1.g x.2.2.1.b∧EvI E n ws ks x.1 x.2.1 x.2.2.2) (fun x=>2*(n-x.2.2.2.length)+(if x.1=true then 1 else 0)) (_,_,⟨p_o,0,cap_o,g_o,b_o⟩,_) (⟨hm,ha_o,hei2⟩) ⟨rfl,rfl,trivial⟩ (fun x w hM=>?_)
 obtain ⟨ok,cyc,⟨p_o,n_o,cap_o,g_o,b_o⟩,out⟩:=x
 obtain ⟨hm,ha_o,hei⟩:=hM
 simp only at hm ha_o hei ⊢
 refine au 6 ?_
 refine cd (fun hc0=>?_) fun hc0=>?_
 ·
  refine au 5 ?_
  refine Qf rfl rfl rfl rfl go158 (e_ch1 n m E Z _ (hZ.ext hm.to) hz hEl pw cw ws (hw.Jj hm.to) hwl pk ck ks (hk.Jj hm.to) hkl m3 m4 m8 m5 g_o b_o p_o cap_o out ha_o hm.Jz (Ki hei.le hn)) fun v w hR=>?_
  obtain ⟨l,p_o,cap_o,g_o,b_o,hcy,rfl,ha_o,hmc⟩:=hR
  refine ⟨trivial,?_⟩
  replace hm:=Mem.JQ (A:=[]) hm hmc
  have hei2:=hei.step hok9 hcy hks
  have hei2l:=hei2.le
  refine au 7 ?_
  exact next (decide (0<(l.filter fun x=>!decide (x∈ks)).length),decide (0<l.length),⟨p_o,0,cap_o,g_o,b_o⟩,(if 0<(l.filter fun x=>!decide (x∈ks)).length then out++[Pl.small (Pl.wt ws) (l.filter fun x=>!decide (x∈ks))] else out)) (by simp only; rw [hc0,LI rfl]; exact ch_less hei2l) ⟨hm,ha_o,hei2⟩ ⟨rfl,rfl,rfl,rfl,rfl,rfl,trivial⟩
 ·
  obtain ⟨hf1,rfl⟩:=hei.fin hc0
  refine au 8 ?_
  refine Ja rfl rfl (JA (c:=false) (Jx rfl) rfl) ?_
  refine au 14 ?_
  exact ⟨_,_,_,_,_,out,rfl,ha_o,hei.ev,hf1,hei.nd,hei.rg,(hm.pick [4] rfl)⟩
end Go.Proofs.YtaehgpeenaomcaaGreat
