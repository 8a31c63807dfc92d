/- Part 6 of the proof of TopShapes: Lay Dev Wire Chk. Conditions: the hypotheses of each theorem. -/
import Derived.Test.YtaehgpeenaomcaaGreatY04
import Derived.Test.YtaehgpeenaomcaaGreatChecked
set_option maxRecDepth 10000
set_option maxHeartbeats 4000000
set_option linter.unusedVariables false
set_option linter.unusedSimpArgs false
namespace Go.Proofs.YtaehgpeenaomcaaGreat
open Go Go.Cx
theorem rec_size(b:Int)(w0:World)(hb:Pl.I64 b):C Tryz.prog 37 [.int .i64 b] w0 fun v w'=>v=.int .i64 (Pl.rsize b)∧Ext No w0 w':=by
 refine C_o Tryz.func37 fun κ _ Je Jc hm=>?_
 refine au 16 ?_
 refine cd (fun hc0=>?_) fun hc0=>?_
 ·
  simp only [bA,bB,bC,bD,bE,bF,dT,dF] at hc0
  refine au 8 ?_
  exact ⟨by unfold Pl.rsize; rw [LI (by omega)],hm.to⟩
 ·
  simp only [bA,bB,bC,bD,bE,bF,dT,dF] at hc0
  refine au 12 ?_
  exact ⟨by unfold Pl.rsize; rw [LH (by omega)],hm.to⟩
theorem j_slot(s b:Int)(w0:World)(hs:Pl.I64 s)(hb:Pl.I64 b):C Tryz.prog 18 [.int .i64 s,.int .i64 b] w0 fun v w'=>v=.int .i64 (Pl.slot s b)∧Ext No w0 w':=by
 refine C_o Tryz.func18 fun κ _ Je Jc hm=>?_
 refine au 20 ?_
 refine cd (fun hc0=>?_) fun hc0=>?_
 ·
  simp only [bA,bB,bC,bD,bE,bF,dT,dF] at hc0
  refine au 8 ?_
  exact ⟨by unfold Pl.slot; rw [LI (by omega)],hm.to⟩
 ·
  simp only [bA,bB,bC,bD,bE,bF,dT,dF] at hc0
  refine au 5 ?_
  refine cA rfl rfl rfl (C.as (rec_size _ _ (by omega)) (by rw [Pl.rsize,LH (by omega)])) hm fun w hm=>?_
  refine Ja rfl rfl (QR rfl rfl ((Ql (by omega) (by omega)).trans (by omega:40+b+4-1=b+43))) ?_
  refine au 1 ?_
  refine Ja rfl rfl (Yy rfl rfl (by omega) (tdivw (by omega) (by omega) (by omega))) ?_
  refine Ja rfl rfl (J5 rfl rfl (Ql (by have:=Pl.Xg (x:=b+43) (s:=s) (by omega) (by omega); omega) (by have:=Pl.Xg (x:=b+43) (s:=s) (by omega) (by omega); omega))) ?_
  refine au 5 ?_
  exact ⟨by unfold Pl.slot; rw [LH (by omega)],hm.to⟩
theorem f_secs(s a b:Int)(w0:World)(hs:Pl.I64 s)(ha:Pl.I64 a)(hb:Pl.I64 b):C Tryz.prog 35 [.int .i64 s,.agg #[.int .i64 a,.int .i64 b]] w0 fun v w'=>v=.agg ⟨Q9 (Pl.secs s a b)⟩∧Ext No w0 w':=by
 refine C_o Tryz.func35 fun κ _ Je Jc hm=>?_
 refine au 2 ?_
 refine bT hm fun m1 w hm=>?_
 refine aT hm fun m2 w hm=>?_
 refine au 9 ?_
 refine J1 rfl rfl rfl (fun hc=>(J8 (gx hc rfl) QL)) go34 (fun hc=>(Qw _ _ _ (by omega) (by omega))) trivial fun w hE hh=>?_
 replace hm:=hm.ext hE
 refine au 9 ?_
 refine cd (fun hc0=>?_) fun hc0=>?_
 ·
  simp only [bB,bE,dT] at hc0
  refine au 3 ?_
  refine st hm 0 fun w hm=>?_
  refine au 5 ?_
  exact ⟨by unfold Pl.secs; rw [LI (by rcases hc0 with (h | h) | h; exact .inl h; exact .inr (.inl h); exact .inr (.inr h))]; rfl,hm.to⟩
 ·
  simp only [bD,bF,dF] at hc0
  have hv:=Pl.valid_t hc0.1.2
  have h3:=Pl.Xg (x:=a) (s:=s) (by omega) (by omega)
  have h4:=Pl.Xg (x:=a+b-1) (s:=s) (by omega) (by omega)
  have h5:=Pl.div_mono (x:=a) (y:=a+b-1) (s:=s) (by omega) (by omega)
  refine au 3 ?_
  refine dw [0,3,6,9,12,21,16,18,24,27,30] hm fun w hw hm0 hh hm=>?_
  refine au 3 ?_
  refine Ja rfl rfl (Yy rfl rfl (by omega) (tdivw (by omega) (by omega) (by omega))) ?_
  refine au 2 ?_
  refine cB rfl rfl rfl (QC _ _ _ (by omega)) hm hh fun w hm hh=>?_
  refine au 1 ?_
  refine Ja rfl rfl (Yy rfl rfl (by omega) (tdivw (by omega) (by omega) (by omega))) ?_
  refine au 12 ?_
  refine st hm 0 fun w hm=>?_
  refine au 4 ?_
  exact ⟨by unfold Pl.secs; rw [LH (by rw [hc0.1.2]; simp; omega)]; rfl,hm.to⟩
theorem y_for(s b o n:Int)(w0:World)(hs:Pl.I64 s)(hb:Pl.I64 b)(ho:Pl.I64 o)(hn:Pl.I64 n):C Tryz.prog 17 [.int .i64 s,.int .i64 b,.int .i64 o,.int .i64 n] w0 fun v w'=>v=.tuple ⟨[.agg ⟨layV s b o n⟩,.int .i64 (Pl.X7 s b o n)]⟩∧Ext No w0 w':=by
 refine C_o Tryz.func17 fun κ _ Je Jc hm=>?_
 refine au 2 ?_
 refine aT hm fun m1 w hm=>?_
 refine au 7 ?_
 refine cA rfl rfl rfl (j_slot _ _ _ (by omega) (by omega)) hm fun w hm=>?_
 refine au 10 ?_
 refine cd (fun hc0=>?_) fun hc0=>?_
 ·
  simp only [bA,bB,bC,bD,bE,bF,dT,dF] at hc0
  refine au 3 ?_
  refine st hm 0 fun w hm=>?_
  refine au 6 ?_
  have e:Pl.X7 s b o n=20:=by unfold Pl.X7; rw [LI (hc0)]
  exact ⟨by unfold layV; rw [e]; rfl,hm.to⟩
 ·
  simp only [dF] at hc0
  have hsl:=Pl.slot_bnd s b
  refine au 7 ?_
  refine cA rfl rfl rfl (Qw _ _ _ (by omega) (by omega)) hm fun w hm=>?_
  refine au 3 ?_
  refine JK rfl rfl rfl (fun hc=>(Qe (cs:=[_,_]) z32.h ft32.h rfl rfl (J8 (gx hc rfl) QL) rfl rfl)) ?_
  refine J1 rfl rfl rfl (fun hc=>(J8 (gx hc rfl) QL)) go34 (fun hc=>(Qw _ _ _ (by omega) (by omega))) trivial fun w hE hh=>?_
  replace hm:=hm.ext hE
  refine au 4 ?_
  refine cd (fun hc1=>?_) fun hc1=>?_
  ·
   simp only [bB,bE] at hc1
   have hbad:Pl.okLen o=false∨Pl.okLen n=false:=hc1
   refine au 3 ?_
   refine st hm 0 fun w hm=>?_
   refine au 6 ?_
   have e:Pl.X7 s b o n=2:=by unfold Pl.X7; rw [LH (by omega),LI hbad]
   exact ⟨by unfold layV; rw [e]; rfl,hm.to⟩
  ·
   simp only [bD,bF] at hc1
   have hgood:Pl.okLen o=true∧Pl.okLen n=true:=hc1
   have ho1:=Pl.VU.1 hc1.1
   have hn1:=Pl.VU.1 hc1.2
   have hse:=Pl.secs_bnd s 0 (max o n)
   refine au 11 ?_
   refine aT hm fun m2 w hm=>?_
   refine st hm 0 fun w hm=>?_
   refine au 7 ?_
   refine cA rfl rfl rfl (f_secs _ _ _ _ (by omega) (by omega) (by omega)) hm fun w hm=>?_
   refine Ja rfl rfl (QF rfl fv32_1 rfl) ?_
   refine au 4 ?_
   refine st hm 0 fun w hm=>?_
   refine au 6 ?_
   refine cA rfl rfl rfl (QC _ _ _ (by omega)) hm fun w hm=>?_
   refine au 1 ?_
   refine st hm 0 fun w hm=>?_
   refine Qc ?_
   refine QV ?_
   refine Qb rfl ?_
   refine JT (.pure 0 (.act 1 (.pure 2 .done))) (by kernel_rfl) ?_
   refine Ja rfl rfl (Jm (s:=7) (vs:=[_,_,_,_,_,_,_]) rfl ag34.h (hm.nt 0 rfl) rfl) ?_
   refine st hm 1 fun w hm=>?_
   refine au 5 ?_
   have e:Pl.X7 s b o n=0:=by unfold Pl.X7; rw [LH (by omega),LH (by simp [hgood])]
   exact ⟨by unfold layV Pl.layF; rw [e]; rfl,hm.to⟩
theorem y_of(s b o n:Int)(rest:List Value)(w0:World)(hs:Pl.I64 s)(hb:Pl.I64 b)(ho:Pl.I64 o)(hn:Pl.I64 n):C Tryz.prog 8 [.int .i64 s,.int .i64 b,.agg ⟨.int .i64 o::.int .i64 n::rest⟩] w0 fun v w'=>v=.tuple ⟨[.agg ⟨layV s b o n⟩,.int .i64 (Pl.X7 s b o n)]⟩∧Ext No w0 w':=by
 refine C_o Tryz.func8 fun κ _ Je Jc hm=>?_
 refine au 2 ?_
 refine bT hm fun m1 w hm=>?_
 refine aT hm fun m2 w hm=>?_
 refine au 11 ?_
 refine cA rfl rfl rfl (y_for _ _ _ _ _ (by omega) (by omega) (by omega) (by omega)) hm fun w hm=>?_
 refine au 2 ?_
 refine st hm 0 fun w hm=>?_
 refine au 5 ?_
 exact ⟨rfl,hm.to⟩
theorem idxf_int(p:Option Addr)(cap:Nat)(xs:List Int)(fi:FuncId)(l2:List Value)(pred:Int→Bool)(w0:World)(hx:Rd w0 p (xs.flatMap encI))(hlen:xs.length≤9223372036854775807)(hg:JH Tryz.prog fi=true)(hf:∀ x w1,x∈xs→Ext No w0 w1→C Tryz.prog fi (.int .i64 x::l2) w1 fun v w2=>v=.bool (pred x)∧Ext No w1 w2):C Tryz.prog 245 [.slice p xs.length cap,.func (.func fi) #[] ⟨l2⟩] w0 fun v w'=>v=.int .i64 (Pl.idx pred xs)∧Ext No w0 w':=by
 refine C_o Tryz.func245 fun κ _ Je Jc hm=>?_
 refine au 14 ?_
 refine Jg (ι:=Nat) rfl (ks:=[0,1,7]) (.cons rfl (.cons rfl (.cons rfl .nil))) (fun k=>[(8,.int .i64 k)]) (fun k w=>Mem w0 w No []∧k≤xs.length∧∀ (j:Nat) y,j<k→xs[j]?=some y→pred y=false) (fun k=>xs.length-k) 0 (⟨hm,LL _,fun _ _ h=>absurd h (Nat.not_lt_zero _)⟩) ⟨rfl,trivial⟩ (fun k w hM=>?_)
 obtain ⟨hm,hk,hno⟩:=hM
 refine au 6 ?_
 refine cd (fun hc0=>?_) fun hc0=>?_
 ·
  simp only [dT] at hc0
  obtain ⟨x,hi⟩:∃ y_,xs[k]?=some y_:=⟨_,La (by omega)⟩
  obtain ⟨qb,qo,rfl⟩:=hx.atI Jq (by decide) hi
  refine au 16 ?_
  refine Ja rfl rfl (J3 rfl sc3.h (hx.Jj hm.to).nt Jq hi rfl) ?_
  refine Qf rfl rfl rfl rfl hg (hf x _ (Ld hi) hm.to) fun v w hR=>?_
  obtain ⟨rfl,hE⟩:=hR
  refine ⟨trivial,?_⟩
  replace hm:=hm.ext hE
  refine au 2 ?_
  refine cd (fun hc1=>?_) fun hc1=>?_
  ·
   refine au 13 ?_
   exact ⟨by rw [Pl.X8 hi hc1 hno],hm.to⟩
  ·
   refine au 7 ?_
   refine next (k+1) (by omega) ⟨hm,by omega,fun j y hj hy=>?_⟩ ⟨nx k,rfl,rfl,rfl,trivial⟩
   rcases L7 j k with h | h
   · exact hno j y h hy
   · obtain rfl:j=k:=by omega
     rw [hi] at hy; cases hy; exact hc1
 ·
  have hk:k=xs.length:=by simp at hc0; omega
  subst hk
  refine au 12 ?_
  exact ⟨by rw [Pl.YN hno],hm.to⟩
theorem d_count(D:Pl.Dv)(m:Nat)(pb:Option Addr)(cb gb:Nat)(bb:Blk)(pc:Option Addr)(cc gc:Nat)(bc:Blk)(gm:Nat)(es:List (Int×Int×Nat))(ck:Nat)(cs:List PdV)(B:List (Nat×Blk))(w0:World)(hZ:Jr w0 ((m,.row 112 (dvV D pb cb pc cc gm))::(gb,bb)::(gc,bc)::(gm,mpB es ck)::B))(hz:DvZ 112 258 5 D m pb cb gb bb pc cc gc bc gm es cs B):C Tryz.prog 105 [.pointer (some ⟨m,0,none⟩)] w0 fun v w'=>v=.int .i64 (D.cnt:Int)∧Ext No w0 w':=by
 have hP:w0.heap[m]?=some (Blk.row 112 (dvV D pb cb pc cc gm)).Jd:=hZ.get (k:=0) rfl
 have hok:=hz.ok
 have o1:=hok.sz
 have o2:=hok.len
 have o3:=hok.cnt
 have o4:=hok.max
 have o5:D.cnt≤D.cnt*D.sz:=Lu _ o1
 have o6:=hz.ab.le
 have o7:D.sz≤D.cnt*D.sz:=L1 _ o3
 refine C_o Tryz.func105 fun κ _ Je Jc hm=>?_
 refine au 6 ?_
 refine dw [0,3,6,9,12,15,18,21,24,27,30] hm fun w hw hm0 hh hm=>?_
 refine au 9 ?_
 refine Ja rfl rfl (Yy rfl rfl (by omega) (cnt_div hok)) ?_
 refine au 5 ?_
 exact ⟨rfl,hm.to⟩
theorem d_sector(D:Pl.Dv)(m:Nat)(pb:Option Addr)(cb:Nat)(pc:Option Addr)(nc cc gm n9:Nat)(w0:World)(hP:w0.heap[m]?=some (Blk.row 112 [.int .i64 (D.sz:Int),.slice pb n9 cb,.int .i64 D.wr,.int .u64 D.kp,.int .i64 D.sW,.int .i64 D.sF,.int .i64 D.sC,.int .i64 D.sH,.int .i64 D.sM,.slice pc nc cc,.map (some gm),.bool D.dn]).Jd)(o4:D.cnt*D.sz≤1048576)(o6:D.cnt*D.sz≤cb)(hsp:cb≠0→∀ ad,pb=some ad→ad.spot=none)(o1:1≤D.sz)(i:Nat)(hi:i<D.cnt):C Tryz.prog 170 [.pointer (some ⟨m,0,none⟩),.int .i64 ((i:Nat):Int)] w0 fun v w'=>v=.slice (slp pb cb (i*D.sz) 1) D.sz (cb-i*D.sz)∧Ext No w0 w':=by
 have o5:D.cnt≤D.cnt*D.sz:=Lu _ o1
 have hs:=Pl.V9 (sz:=D.sz) hi
 have hs1:(i+1)*D.sz=i*D.sz+D.sz:=by rw [Kh,Nat.one_mul]
 refine C_o Tryz.func170 fun κ _ Je Jc hm=>?_
 refine au 6 ?_
 refine dw [0,3,6,9,12,15,18,21,24,27,30,33,36,39,42,45,48,51,54] hm fun w hw hm0 hh hm=>?_
 refine au 9 ?_
 refine Ja rfl rfl (Vy rfl rfl (mulN (by omega))) ?_
 refine au 1 ?_
 refine Ja rfl rfl (J5 rfl rfl (addN (by omega))) ?_
 refine au 4 ?_
 refine Ja rfl rfl (Vy rfl rfl (mulN (by omega))) ?_
 refine Ja rfl rfl (y_v (JE (ln:=(i*D.sz)) (hn:=((i+1)*D.sz)) rfl sl22.h ⟨_,rfl⟩ ⟨_,rfl⟩ (by omega) (by omega) (fun h=>hsp (by omega))) (show _=Value.slice (slp pb cb (i*D.sz) 1) D.sz (cb-i*D.sz) by rw [hs1,Kk])) ?_
 refine au 5 ?_
 exact ⟨rfl,hm.to⟩
theorem d_size(D:Pl.Dv)(m:Nat)(pb:Option Addr)(cb gb:Nat)(bb:Blk)(pc:Option Addr)(cc gc:Nat)(bc:Blk)(gm:Nat)(es:List (Int×Int×Nat))(ck:Nat)(cs:List PdV)(B:List (Nat×Blk))(w0:World)(hZ:Jr w0 ((m,.row 112 (dvV D pb cb pc cc gm))::(gb,bb)::(gc,bc)::(gm,mpB es ck)::B))(hz:DvZ 112 258 5 D m pb cb gb bb pc cc gc bc gm es cs B):C Tryz.prog 73 [.pointer (some ⟨m,0,none⟩)] w0 fun v w'=>v=.int .i64 (D.sz:Int)∧Ext No w0 w':=by
 have hP:w0.heap[m]?=some (Blk.row 112 (dvV D pb cb pc cc gm)).Jd:=hZ.get (k:=0) rfl
 have hok:=hz.ok
 have o1:=hok.sz
 have o2:=hok.len
 have o3:=hok.cnt
 have o4:=hok.max
 have o5:D.cnt≤D.cnt*D.sz:=Lu _ o1
 have o6:=hz.ab.le
 have o7:D.sz≤D.cnt*D.sz:=L1 _ o3
 refine C_o Tryz.func73 fun κ _ Je Jc hm=>?_
 refine au 27 ?_
 exact ⟨rfl,hm.to⟩
theorem d_sectors(D:Pl.Dv)(m:Nat)(pb:Option Addr)(cb gb:Nat)(bb:Blk)(pc:Option Addr)(cc gc:Nat)(bc:Blk)(gm:Nat)(es:List (Int×Int×Nat))(ck:Nat)(cs:List PdV)(B:List (Nat×Blk))(w0:World)(hZ:Jr w0 ((m,.row 112 (dvV D pb cb pc cc gm))::(gb,bb)::(gc,bc)::(gm,mpB es ck)::B))(hz:DvZ 112 258 5 D m pb cb gb bb pc cc gc bc gm es cs B):C Tryz.prog 74 [.pointer (some ⟨m,0,none⟩)] w0 fun v w'=>v=.int .i64 (D.cnt:Int)∧Ext No w0 w':=by
 have hP:w0.heap[m]?=some (Blk.row 112 (dvV D pb cb pc cc gm)).Jd:=hZ.get (k:=0) rfl
 have hok:=hz.ok
 have o1:=hok.sz
 have o2:=hok.len
 have o3:=hok.cnt
 have o4:=hok.max
 have o5:D.cnt≤D.cnt*D.sz:=Lu _ o1
 have o6:=hz.ab.le
 have o7:D.sz≤D.cnt*D.sz:=L1 _ o3
 refine C_o Tryz.func74 fun κ _ Je Jc hm=>?_
 refine au 20 ?_
 refine cA rfl rfl rfl (d_count D m pb cb gb bb pc cc gc bc gm es ck cs B _ (hZ.ext hm.to) hz) hm fun w hm=>?_
 refine au 5 ?_
 exact ⟨rfl,hm.to⟩
theorem d_check(D:Pl.Dv)(m:Nat)(pb:Option Addr)(cb gb:Nat)(bb:Blk)(pc:Option Addr)(cc gc:Nat)(bc:Blk)(gm:Nat)(es:List (Int×Int×Nat))(ck:Nat)(cs:List PdV)(B:List (Nat×Blk))(w0:World)(hZ:Jr w0 ((m,.row 112 (dvV D pb cb pc cc gm))::(gb,bb)::(gc,bc)::(gm,mpB es ck)::B))(hz:DvZ 112 258 5 D m pb cb gb bb pc cc gc bc gm es cs B)(i:Int):C Tryz.prog 254 [.pointer (some ⟨m,0,none⟩),.int .i64 i] w0 fun v w'=>v=.int .i64 (Pl.JI D i)∧Ext No w0 w':=by
 have hP:w0.heap[m]?=some (Blk.row 112 (dvV D pb cb pc cc gm)).Jd:=hZ.get (k:=0) rfl
 have hok:=hz.ok
 have o1:=hok.sz
 have o2:=hok.len
 have o3:=hok.cnt
 have o4:=hok.max
 have o5:D.cnt≤D.cnt*D.sz:=Lu _ o1
 have o6:=hz.ab.le
 have o7:D.sz≤D.cnt*D.sz:=L1 _ o3
 have hcd:Pl.JI D i=if D.dn=true then 18 else if i<0∨(D.cnt:Int)≤i then 2 else 0:=rfl
 refine C_o Tryz.func254 fun κ _ Je Jc hm=>?_
 refine au 24 ?_
 refine cd (fun hc1=>?_) fun hc1=>?_
 ·
  refine au 9 ?_
  exact ⟨by rw [hcd,LI hc1],hm.to⟩
 ·
  refine au 9 ?_
  refine J1 rfl rfl rfl (fun hc=>(J8 (gx hc rfl) QL)) go105 (fun hc=>(d_count D m pb cb gb bb pc cc gc bc gm es ck cs B _ (hZ.ext hm.to) hz)) trivial fun w hE hh=>?_
  replace hm:=hm.ext hE
  refine au 5 ?_
  refine cd (fun hc2=>?_) fun hc2=>?_
  ·
   simp only [bB,dT] at hc2
   refine au 9 ?_
   exact ⟨by rw [hcd,LH (by simp [hc1]),LI (by omega)],hm.to⟩
  ·
   simp only [bD,dF] at hc2
   refine au 10 ?_
   exact ⟨by rw [hcd,LH (by simp [hc1]),LH (by omega)],hm.to⟩
theorem d_stats(D:Pl.Dv)(m:Nat)(pb:Option Addr)(cb gb:Nat)(bb:Blk)(pc:Option Addr)(cc gc:Nat)(bc:Blk)(gm:Nat)(es:List (Int×Int×Nat))(ck:Nat)(cs:List PdV)(B:List (Nat×Blk))(w0:World)(hZ:Jr w0 ((m,.row 112 (dvV D pb cb pc cc gm))::(gb,bb)::(gc,bc)::(gm,mpB es ck)::B))(hz:DvZ 112 258 5 D m pb cb gb bb pc cc gc bc gm es cs B):C Tryz.prog 106 [.pointer (some ⟨m,0,none⟩)] w0 fun v w'=>v=.agg ⟨[.int .i64 D.sW,.int .i64 D.sF,.int .i64 D.sC,.int .i64 D.sH,.int .i64 D.sM]⟩∧Ext No w0 w':=by
 have hP:w0.heap[m]?=some (Blk.row 112 (dvV D pb cb pc cc gm)).Jd:=hZ.get (k:=0) rfl
 have hok:=hz.ok
 have o1:=hok.sz
 have o2:=hok.len
 have o3:=hok.cnt
 have o4:=hok.max
 have o5:D.cnt≤D.cnt*D.sz:=Lu _ o1
 have o6:=hz.ab.le
 have o7:D.sz≤D.cnt*D.sz:=L1 _ o3
 refine C_o Tryz.func106 fun κ _ Je Jc hm=>?_
 refine au 2 ?_
 refine aT hm fun m1 w hm=>?_
 refine au 17 ?_
 refine Ja rfl rfl (Jm (s:=5) (vs:=[_,_,_,_,_]) rfl ag108.h (Qo ((hm.to.same _ (Lb.1 hP).1 id).trans hP)) rfl) ?_
 refine st hm 0 fun w hm=>?_
 refine au 4 ?_
 exact ⟨rfl,hm.to⟩
theorem d_disk(D:Pl.Dv)(m:Nat)(pb:Option Addr)(cb gb:Nat)(bb:Blk)(pc:Option Addr)(cc gc:Nat)(bc:Blk)(gm:Nat)(es:List (Int×Int×Nat))(ck:Nat)(cs:List PdV)(B:List (Nat×Blk))(w0:World)(hZ:Jr w0 ((m,.row 112 (dvV D pb cb pc cc gm))::(gb,bb)::(gc,bc)::(gm,mpB es ck)::B))(hz:DvZ 112 258 5 D m pb cb gb bb pc cc gc bc gm es cs B):C Tryz.prog 25 [.pointer (some ⟨m,0,none⟩)] w0 fun v w'=>∃ q c g b,v=.slice q D.dk.length c∧Acc 5 1 q (D.dk).length c ((D.dk).flatMap Jk) g b∧Mem w0 w' No [(g,b)]:=by
 have hP:w0.heap[m]?=some (Blk.row 112 (dvV D pb cb pc cc gm)).Jd:=hZ.get (k:=0) rfl
 have hok:=hz.ok
 have o1:=hok.sz
 have o2:=hok.len
 have o3:=hok.cnt
 have o4:=hok.max
 have o5:D.cnt≤D.cnt*D.sz:=Lu _ o1
 have o6:=hz.ab.le
 have o7:D.sz≤D.cnt*D.sz:=L1 _ o3
 have hB:=hz.ab.rdO hZ (by simp)
 refine C_o Tryz.func25 fun κ _ Je Jc hm=>?_
 refine au 22 ?_
 refine cT rfl rfl rfl (V0 pb cb D.dk _ (hB.Jj hm.to) (by omega)) fun v w hR=>?_
 obtain ⟨p_s,cap_s,g_s,b_s,rfl,ha_s,hmc⟩:=hR
 have hg_s:b_s.real=true→_:=fun hr=>(hmc.fresh _ Lo hr).resolve_left id
 replace hm:=hm.Jt hmc
 refine au 5 ?_
 exact ⟨p_s,cap_s,g_s,b_s,rfl,ha_s,(hm.pick [0] rfl)⟩
theorem d_read(D:Pl.Dv)(m:Nat)(pb:Option Addr)(cb gb:Nat)(bb:Blk)(pc:Option Addr)(cc gc:Nat)(bc:Blk)(gm:Nat)(es:List (Int×Int×Nat))(ck:Nat)(cs:List PdV)(B:List (Nat×Blk))(w0:World)(hZ:Jr w0 ((m,.row 112 (dvV D pb cb pc cc gm))::(gb,bb)::(gc,bc)::(gm,mpB es ck)::B))(hz:DvZ 112 258 5 D m pb cb gb bb pc cc gc bc gm es cs B)(i:Int):C Tryz.prog 219 [.pointer (some ⟨m,0,none⟩),.int .i64 i] w0 fun v w'=>∃ q c g b,v=.tuple ⟨[.slice q (if Pl.JI D i=0 then Pl.rdS D i else []).length c,.int .i64 (Pl.JI D i)]⟩∧Acc 5 1 q ((if Pl.JI D i=0 then Pl.rdS D i else [])).length c (((if Pl.JI D i=0 then Pl.rdS D i else [])).flatMap Jk) g b∧Mem w0 w' No [(g,b)]:=by
 have hP:w0.heap[m]?=some (Blk.row 112 (dvV D pb cb pc cc gm)).Jd:=hZ.get (k:=0) rfl
 have hok:=hz.ok
 have o1:=hok.sz
 have o2:=hok.len
 have o3:=hok.cnt
 have o4:=hok.max
 have o5:D.cnt≤D.cnt*D.sz:=Lu _ o1
 have o6:=hz.ab.le
 have o7:D.sz≤D.cnt*D.sz:=L1 _ o3
 have hB:=hz.ab.rdO hZ (by simp)
 have hC:=hz.ac.rdO hZ (by simp)
 have hM:=hZ.get (k:=3) rfl
 have hCl:=wr_len hz.cw
 refine C_o Tryz.func219 fun κ _ Je Jc hm=>?_
 refine au 11 ?_
 refine cA rfl rfl rfl (d_check D m pb cb gb bb pc cc gc bc gm es ck cs B _ (hZ.ext hm.to) hz i) hm fun w hm=>?_
 refine au 9 ?_
 refine cd (fun hc0=>?_) fun hc0=>?_
 ·
  simp only [dT] at hc0
  have hrs:(if Pl.JI D i=0 then Pl.rdS D i else [])=[]:=LH hc0
  refine au 10 ?_
  exact ⟨none,0,0,.gap,by rw [hrs]; rfl,by rw [hrs]; exact .nil _ _ _ _,(hm.drop (List.nil_sublist _)).JP⟩
 ·
  simp only [dF,Decidable.not_not] at hc0
  have hrs:(if Pl.JI D i=0 then Pl.rdS D i else [])=Pl.rdS D i:=LI hc0
  obtain ⟨_,hi0,hi1⟩:=code0 hc0
  obtain ⟨ii,rfl⟩:∃ ii:Nat,i=ii:=⟨i.toNat,by omega⟩
  have hsl:=Pl.sector_last (cnt:=D.cnt) (i:=ii) (by omega) hok.len hok.ca
  have hrd:Pl.rdS D (ii:Int)=((D.ca.foldl (Pl.putS D.sz) D.dk).drop (ii*D.sz)).take D.sz:=rfl
  refine au 10 ?_
  refine Ja rfl rfl (y_lookup rfl rfl mi110 (Qo ((hm.to.same _ (Lb.1 hM).1 id).trans hM))) ?_
  refine au 12 ?_
  refine cd (fun hc1=>?_) fun hc1=>?_
  ·
   obtain ⟨k,hk⟩:=Option.isSome_iff_exists.1 hc1
   obtain ⟨c,hk0,hkc,hks,hkl⟩:=hsl.1 k (by rw [← hz.mp]; exact hk)
   obtain ⟨kn,rfl⟩:∃ kn:Nat,k=kn:=⟨k.toNat,by omega⟩
   obtain ⟨x,hx⟩:∃ y_,cs[kn]?=some y_:=⟨_,La (by omega)⟩
   obtain ⟨b2,o8,hq⟩:=hC.atI encP_len (by decide) hx
   have hxc:=wr_get hz.cw hx
   rw [LD,hxc] at hkc
   have hcb2:x.d.bs=c.2:=LM Prod.snd (Option.some.inj hkc)
   have hxl:x.d.bs.length=D.sz:=by rw [hcb2]; exact (hok.ca c (by have:=Ld hxc; rw [Option.some.inj hkc] at this; exact this)).2
   refine au 6 ?_
   refine Ja rfl rfl (y_v (Jx rfl) (show _=Value.int .i64 (kn:Int) by rw [hk]; rfl)) ?_
   refine Ja rfl rfl (Qy rfl rfl sl109.h hq (by omega) (by omega)) ?_
   refine au 1 ?_
   refine Ja rfl rfl (Yr rfl sc22.h (hq▸hC.Jj hm.to).nt encP_len hx rfl) ?_
   refine cT rfl rfl rfl (V0 x.d.p x.d.cap x.d.bs _ (((hz.hd x (Ld hx)).mono (fun e he=>by simp [he])).rdO (hZ.ext hm.to)) (by omega)) fun v w hR=>?_
   obtain ⟨p_s,cap_s,g_s,b_s,rfl,ha_s,hmc⟩:=hR
   have hg_s:b_s.real=true→_:=fun hr=>(hmc.fresh _ Lo hr).resolve_left id
   replace hm:=hm.Jt hmc
   refine au 7 ?_
   exact ⟨p_s,cap_s,g_s,b_s,by rw [hrs,hrd,hks,hc0,hcb2],by rw [hrs,hrd,hks,← hcb2]; exact ha_s,(hm.pick [0] rfl)⟩
  ·
   have hkn:Pl.Yn D.ca ii=none:=by rw [← hz.mp]; simpa using hc1
   have hks:=hsl.2 hkn
   have hsec:=Pl.V9 (sz:=D.sz) (cnt:=D.cnt) (i:=ii) (by omega)
   have hpl:((D.dk.drop (ii*D.sz)).take D.sz).length=D.sz:=by rw [Lg,Lm]; omega
   refine au 8 ?_
   refine cA rfl rfl rfl (d_sector D m pb cb pc _ cc gm _ _ ((hm.to.same _ (Lb.1 hP).1 id).trans hP) o4 (by omega) hz.ab.spot o1 ii (by omega)) hm fun w hm=>?_
   refine cT rfl rfl rfl (C.eqv (V0 (slp pb cb (ii*D.sz) 1) (cb-ii*D.sz) ((D.dk.drop (ii*D.sz)).take D.sz) _ ((hB.Jj hm.to).sub o6) (by omega)) (by rw [hpl])) fun v w hR=>?_
   obtain ⟨p_s,cap_s,g_s,b_s,rfl,ha_s,hmc⟩:=hR
   have hg_s:b_s.real=true→_:=fun hr=>(hmc.fresh _ Lo hr).resolve_left id
   replace hm:=hm.Jt hmc
   refine au 6 ?_
   exact ⟨p_s,cap_s,g_s,b_s,by rw [hrs,hrd,hks,hc0],by rw [hrs,hrd,hks]; exact ha_s,(hm.pick [0] rfl)⟩
theorem d_persist(D:Pl.Dv)(m:Nat)(pb:Option Addr)(cb gb:Nat)(bb:Blk)(pc:Option Addr)(cc gc:Nat)(bc:Blk)(gm:Nat)(es:List (Int×Int×Nat))(ck:Nat)(cs:List PdV)(B:List (Nat×Blk))(w0:World)(hZ:Jr w0 ((m,.row 112 (dvV D pb cb pc cc gm))::(gb,bb)::(gc,bc)::(gm,mpB es ck)::B))(hz:DvZ 112 258 5 D m pb cb gb bb pc cc gc bc gm es cs B)(hcl:D.ca.length≤2000000000)(keep:Nat→Bool)(fi:FuncId)(l2:List Value)(hg:JH Tryz.prog fi=true)(hf:∀ (k:Nat) w1,w1.heap[m]?=some (Blk.row 112 (dvV D pb cb pc cc gm)).Jd→Ext (Mn (reals ((m,.row 112 (dvV D pb cb pc cc gm))::(gb,bb)::(gc,bc)::(gm,mpB es ck)::B))) w0 w1→C Tryz.prog fi (.int .i64 k::l2) w1 fun v w2=>v=.bool (keep k)∧Ext No w1 w2):C Tryz.prog 140 [.pointer (some ⟨m,0,none⟩),.func (.func fi) #[] ⟨l2⟩] w0 fun v w'=>v=.tuple ⟨[]⟩∧∃ bb',Mem w0 w' (Mn (reals ((m,.row 112 (dvV D pb cb pc cc gm))::(gb,bb)::(gc,bc)::(gm,mpB es ck)::B))) ((m,.row 112 (dvV (Pl.persist D keep) pb cb none 0 gm))::(gb,bb')::(0,.gap)::(gm,mpB [] ck)::B)∧DvZ 112 258 5 (Pl.persist D keep) m pb cb gb bb' none 0 0 .gap gm [] [] B:=by
 have hP:w0.heap[m]?=some (Blk.row 112 (dvV D pb cb pc cc gm)).Jd:=hZ.get (k:=0) rfl
 have hok:=hz.ok
 have o1:=hok.sz
 have o2:=hok.len
 have o3:=hok.cnt
 have o4:=hok.max
 have o5:D.cnt≤D.cnt*D.sz:=Lu _ o1
 have o6:=hz.ab.le
 have o7:D.sz≤D.cnt*D.sz:=L1 _ o3
 have ha_b:=hz.ab
 have ha_c:=hz.ac
 have hCl:=wr_len hz.cw
 have hpl:(Pl.persist D keep).dk.length=D.dk.length:=Pl.Xr hok.len hok.ca
 have hrow:dvV (Pl.persist D keep) pb cb none 0 gm=[.int .i64 (D.sz:Int),.slice pb D.dk.length cb,.int .i64 D.wr,.int .u64 D.kp,.int .i64 D.sW,.int .i64 D.sF,.int .i64 D.sC,.int .i64 D.sH,.int .i64 D.sM,.slice none 0 0,.map (some gm),.bool D.dn]:=by unfold dvV; rw [hpl]; rfl
 refine Vk Tryz.func140 rfl rfl rfl fun κ _ Je Jc=>?_
 have hm:=hZ.start
 refine au 12 ?_
 refine Jg (ι:=Nat×Blk) rfl (ks:=[0,1,9,10]) (.cons rfl (.cons rfl (.cons rfl (.cons rfl .nil)))) (fun x=>[(11,.int .i64 x.1)]) (fun x w=>Mem w0 w (Mn (reals ((m,.row 112 (dvV D pb cb pc cc gm))::(gb,bb)::(gc,bc)::(gm,mpB es ck)::B))) ((m,.row 112 (dvV D pb cb pc cc gm))::(gb,x.2)::(gc,bc)::(gm,mpB es ck)::B)∧Acc 5 1 pb D.dk.length cb ((Pl.pers D.sz keep 0 D.dk (D.ca.take x.1)).flatMap Jk) gb x.2∧x.1≤cs.length) (fun x=>cs.length-x.1) (0,bb) (⟨hm,ha_b,LL _⟩) ⟨rfl,trivial⟩ (fun x w hM=>?_)
 obtain ⟨hm,ha_b,hk⟩:=hM
 refine au 6 ?_
 refine cd (fun hc0=>?_) fun hc0=>?_
 ·
  simp only [dT] at hc0
  obtain ⟨c,hi⟩:∃ y_,cs[x.1]?=some y_:=⟨_,La (by omega)⟩
  obtain ⟨b2,o2_,hq⟩:=(ha_c.rd hm 2 rfl).atI encP_len (by decide) hi
  have hcx:=wr_get hz.cw hi
  have hcw:=hok.ca _ (Ld hcx)
  have hfl:(Pl.pers D.sz keep 0 D.dk (D.ca.take x.1)).length=D.dk.length:=Pl.Xr hok.len fun d hd=>hok.ca d (List.mem_of_mem_take hd)
  have hse:c.i*D.sz+D.sz≤D.cnt*D.sz:=Pl.V9 hcw.1
  have hcl2:c.d.bs.length=D.sz:=hcw.2
  have hci:c.i<D.cnt:=hcw.1
  refine au 7 ?_
  refine Ja rfl rfl (Qy rfl rfl sl109.h hq (by omega) (by omega)) ?_
  refine Ja rfl rfl (JU rfl ag258.h (hq▸ha_c.rd hm 2 rfl).nt encP_len hi) ?_
  refine aT hm fun m1 w hm=>?_
  refine au 1 ?_
  refine st hm 0 fun w hm=>?_
  refine au 6 ?_
  refine Qf rfl rfl rfl rfl hg (hf x.1 _ (hm.get (k:=1) rfl) hm.to) fun v w hR=>?_
  obtain ⟨rfl,hE⟩:=hR
  refine ⟨trivial,?_⟩
  replace hm:=hm.ext hE
  refine au 2 ?_
  refine cd (fun hc1=>?_) fun hc1=>?_
  ·
   refine dw [0,3,6,9,12,18,21,16,2,25] hm fun w hw hm0 hh hm=>?_
   refine au 7 ?_
   refine cB rfl rfl rfl (d_sector D m pb cb pc _ cc gm _ _ (hm.get (k:=1) rfl) o4 (by omega) hz.ab.spot o1 c.i hci) hm hh fun w hm hh=>?_
   refine au 1 ?_
   refine a_copyL (o:=c.i*D.sz) (src:=(c.d.bs).flatMap Jk) rfl rfl rfl rfl rfl sl22.h (by omega) ((hz.hd c (Ld hi)).rd hm (by intro e he; simp [he,Qr])) (by rw [J0]; omega) (Zl _) ha_b hm 2 rfl fun b_b w ha_b hm=>?_
   replace ha_b:=ha_b.to (Y0 (by rw [hfl]; omega))
   refine au 7 ?_
   first | refine next (x.1+1,b_b) (by simp only; omega) ⟨(hm.Jp [1,2,3,4] 5 rfl),ha_b.to ?_,by simp only; omega⟩ ⟨nx x.1,rfl,rfl,rfl,rfl,trivial⟩ | refine next (x.1+1,x.2) (by simp only; omega) ⟨(hm.Jp [1,2,3,4] 5 rfl),ha_b.to ?_,by simp only; omega⟩ ⟨nx x.1,rfl,rfl,rfl,rfl,trivial⟩
   rw [Pl.pers_next hcx,hc1]; rfl
  ·
   refine au 7 ?_
   first | refine next (x.1+1,b_b) (by simp only; omega) ⟨(hm.Jp [1,2,3,4] 5 rfl),ha_b.to ?_,by simp only; omega⟩ ⟨nx x.1,rfl,rfl,rfl,rfl,trivial⟩ | refine next (x.1+1,x.2) (by simp only; omega) ⟨(hm.Jp [1,2,3,4] 5 rfl),ha_b.to ?_,by simp only; omega⟩ ⟨nx x.1,rfl,rfl,rfl,rfl,trivial⟩
   rw [Pl.pers_next hcx,hc1]; rfl
 ·
  simp only [dF] at hc0
  rw [LZ (by omega)] at ha_b
  refine au 10 ?_
  refine st hm 0 fun w hm=>?_
  refine au 7 ?_
  refine a_clearMapN rfl rfl mi110 hm 3 rfl fun w hm=>?_
  refine au 1 ?_
  refine toN (fin Jc rfl .nil .nil ?_)
  exact ⟨rfl,x.2,by rw [hrow]; exact (hm.JP.Jp [1,2,0,4] 5 rfl),⟨by rw [hpl]; exact ha_b,.nil _ _ _ _,rfl,by simp,fun k=>rfl,Pl.Yk hok keep⟩⟩
theorem gFt:JH Tryz.prog 288=true:=by kernel_rfl
theorem gRt:JH Tryz.prog 141=true:=by kernel_rfl
theorem gWt:JH Tryz.prog 305=true:=by kernel_rfl
theorem d_ktrue(k:Nat)(w0:World):C Tryz.prog 288 [.int .i64 (k:Int)] w0 fun v w'=>v=.bool true∧Ext No w0 w':=by
 refine C_o Tryz.func288 fun κ _ Je Jc hm=>?_
 refine au 12 ?_
 exact ⟨rfl,hm.to⟩
theorem d_kfalse(k:Nat)(w0:World):C Tryz.prog 141 [.int .i64 (k:Int)] w0 fun v w'=>v=.bool false∧Ext No w0 w':=by
 refine C_o Tryz.func141 fun κ _ Je Jc hm=>?_
 refine au 12 ?_
 exact ⟨rfl,hm.to⟩
theorem d_keep(m1 T1:Nat)(D:Pl.Dv)(m:Nat)(pb:Option Addr)(cb:Nat)(pc:Option Addr)(cc gm:Nat)(k:Nat)(w0:World)(h1:w0.heap[m1]?=some (Blk.row T1 [.pointer (some ⟨m,0,none⟩)]).Jd)(hP:w0.heap[m]?=some (Blk.row 112 (dvV D pb cb pc cc gm)).Jd):C Tryz.prog 305 [.int .i64 (k:Int),.pointer (some ⟨m1,0,none⟩)] w0 fun v w'=>v=.bool (Pl.keepB D.kp k)∧Ext No w0 w':=by
 refine C_o Tryz.func305 fun κ _ Je Jc hm=>?_
 refine au 13 ?_
 refine Ja rfl rfl (y_rem rfl rfl (by omega) rfl) ?_
 refine Ja rfl rfl (V1 rfl rfl (Int.tmod_nonneg _ (Int.natCast_nonneg _)) rfl) ?_
 refine Ja rfl rfl (VA rfl rfl rfl) ?_
 refine au 6 ?_
 exact ⟨rfl,hm.to⟩
theorem d_flush(D:Pl.Dv)(m:Nat)(pb:Option Addr)(cb gb:Nat)(bb:Blk)(pc:Option Addr)(cc gc:Nat)(bc:Blk)(gm:Nat)(es:List (Int×Int×Nat))(ck:Nat)(cs:List PdV)(B:List (Nat×Blk))(w0:World)(hZ:Jr w0 ((m,.row 112 (dvV D pb cb pc cc gm))::(gb,bb)::(gc,bc)::(gm,mpB es ck)::B))(hz:DvZ 112 258 5 D m pb cb gb bb pc cc gc bc gm es cs B)(hcl:D.ca.length≤1000000000):C Tryz.prog 265 [.pointer (some ⟨m,0,none⟩)] w0 fun v w'=>v=.int .i64 (Pl.QS D)∧∃ Z',JV 112 258 5 (Pl.fDv D) m Z'∧Mem w0 w' (Mn (reals ((m,.row 112 (dvV D pb cb pc cc gm))::(gb,bb)::(gc,bc)::(gm,mpB es ck)::B))) Z':=by
 have hP:w0.heap[m]?=some (Blk.row 112 (dvV D pb cb pc cc gm)).Jd:=hZ.get (k:=0) rfl
 have hok:=hz.ok
 have o1:=hok.sz
 have o2:=hok.len
 have o3:=hok.cnt
 have o4:=hok.max
 have o5:D.cnt≤D.cnt*D.sz:=Lu _ o1
 have o6:=hz.ab.le
 have o7:D.sz≤D.cnt*D.sz:=L1 _ o3
 have ha_b:=hz.ab
 have ha_c:=hz.ac
 have hCl:=wr_len hz.cw
 have hcd:Pl.JI D 0=Pl.QS D:=by unfold Pl.JI Pl.QS; rw [LH (show ¬ ((0:Int)<0∨(D.cnt:Int)≤0) by omega)]
 have hfc:Pl.QS D=if D.dn=true then 18 else 0:=rfl
 have hfd:Pl.fDv D=if D.dn=true then D else { Pl.persist D (fun _=>true) with sF:=Pl.inc D.sF }:=rfl
 have hpl:=Pl.Xr (keep:=fun _=>true) (k:=0) hok.len hok.ca
 refine Vk Tryz.func265 rfl rfl rfl fun κ _ Je Jc=>?_
 have hm:=hZ.start
 refine au 9 ?_
 refine cA rfl rfl rfl (C.as (d_check D m pb cb gb bb pc cc gc bc gm es ck cs B _ hm.Jz hz 0) (LM (Value.int .i64) hcd)) hm fun w hm=>?_
 refine au 9 ?_
 refine cd (fun hc0=>?_) fun hc0=>?_
 ·
  have hdn:D.dn=true:=by rw [hfc] at hc0; simpa using hc0
  refine au 9 ?_
  exact ⟨rfl,_,by rw [hfd,LI hdn]; exact hz.dev ck,(hm.Jp [0,1,2,3] 4 rfl)⟩
 ·
  have hdn:¬ D.dn=true:=by rw [hfc] at hc0; simpa using hc0
  refine au 5 ?_
  refine cT rfl rfl rfl (d_persist D m pb cb gb bb pc cc gc bc gm es ck cs B _ hm.Jz hz (by omega) (fun _=>true) _ _ gFt (fun k w1 _ _=>(d_ktrue k w1).mono fun v w2 h=>⟨h.1,h.2⟩)) fun v w hR=>?_
  obtain ⟨rfl,b9_b,hmc,hz9⟩:=hR
  replace hm:=hm.JQ (A:=[]) hmc
  refine au 9 ?_
  refine Ja rfl rfl (J5 rfl rfl rfl) ?_
  refine au 3 ?_
  refine st hm 0 fun w hm=>?_
  refine au 9 ?_
  exact ⟨by rw [hfc,LH hdn],_,by rw [hfd,LH hdn]; exact (hz9.as (D2:={ Pl.persist D (fun _=>true) with sF:=Pl.inc D.sF }) rfl rfl (by have:=Pl.ok_flush hok; rw [hfd,LH hdn] at this; exact this)).dev _,(hm.Jp [0,1,2,3] 4 rfl)⟩
theorem d_arm(D:Pl.Dv)(m:Nat)(pb:Option Addr)(cb gb:Nat)(bb:Blk)(pc:Option Addr)(cc gc:Nat)(bc:Blk)(gm:Nat)(es:List (Int×Int×Nat))(ck:Nat)(cs:List PdV)(B:List (Nat×Blk))(w0:World)(hZ:Jr w0 ((m,.row 112 (dvV D pb cb pc cc gm))::(gb,bb)::(gc,bc)::(gm,mpB es ck)::B))(hz:DvZ 112 258 5 D m pb cb gb bb pc cc gc bc gm es cs B)(n k:Int)(hn:Pl.I64 n)(hk:0≤k∧k≤18446744073709551615):C Tryz.prog 76 [.pointer (some ⟨m,0,none⟩),.int .i64 n,.int .u64 k] w0 fun v w'=>v=.tuple ⟨[]⟩∧∃ Z',JV 112 258 5 (Pl.aDv D n k) m Z'∧Mem w0 w' (Mn (reals ((m,.row 112 (dvV D pb cb pc cc gm))::(gb,bb)::(gc,bc)::(gm,mpB es ck)::B))) Z':=by
 have hP:w0.heap[m]?=some (Blk.row 112 (dvV D pb cb pc cc gm)).Jd:=hZ.get (k:=0) rfl
 have hok:=hz.ok
 have o1:=hok.sz
 have o2:=hok.len
 have o3:=hok.cnt
 have o4:=hok.max
 have o5:D.cnt≤D.cnt*D.sz:=Lu _ o1
 have o6:=hz.ab.le
 have o7:D.sz≤D.cnt*D.sz:=L1 _ o3
 have ha_b:=hz.ab
 have ha_c:=hz.ac
 have hCl:=wr_len hz.cw
 refine Vk Tryz.func76 rfl rfl rfl fun κ _ Je Jc=>?_
 have hm:=hZ.start
 refine au 3 ?_
 refine Ja rfl rfl (y_pnnil rfl rfl pb67.h) ?_
 refine au 11 ?_
 refine st hm 0 fun w hm=>?_
 refine au 1 ?_
 refine toN (fin Jc rfl .nil .nil ?_)
 exact ⟨rfl,_,(hz.as (D2:=Pl.aDv D n k) rfl rfl (Pl.ok_arm hok hn hk)).dev ck,(hm.Jp [0,1,2,3] 4 rfl)⟩
theorem d_restart(D:Pl.Dv)(m:Nat)(pb:Option Addr)(cb gb:Nat)(bb:Blk)(pc:Option Addr)(cc gc:Nat)(bc:Blk)(gm:Nat)(es:List (Int×Int×Nat))(ck:Nat)(cs:List PdV)(B:List (Nat×Blk))(w0:World)(hZ:Jr w0 ((m,.row 112 (dvV D pb cb pc cc gm))::(gb,bb)::(gc,bc)::(gm,mpB es ck)::B))(hz:DvZ 112 258 5 D m pb cb gb bb pc cc gc bc gm es cs B)(hcl:D.ca.length≤1000000000):C Tryz.prog 108 [.pointer (some ⟨m,0,none⟩)] w0 fun v w'=>v=.tuple ⟨[]⟩∧∃ Z',JV 112 258 5 (Pl.sDv D) m Z'∧Mem w0 w' (Mn (reals ((m,.row 112 (dvV D pb cb pc cc gm))::(gb,bb)::(gc,bc)::(gm,mpB es ck)::B))) Z':=by
 have hP:w0.heap[m]?=some (Blk.row 112 (dvV D pb cb pc cc gm)).Jd:=hZ.get (k:=0) rfl
 have hok:=hz.ok
 have o1:=hok.sz
 have o2:=hok.len
 have o3:=hok.cnt
 have o4:=hok.max
 have o5:D.cnt≤D.cnt*D.sz:=Lu _ o1
 have o6:=hz.ab.le
 have o7:D.sz≤D.cnt*D.sz:=L1 _ o3
 have ha_b:=hz.ab
 have ha_c:=hz.ac
 have hCl:=wr_len hz.cw
 refine Vk Tryz.func108 rfl rfl rfl fun κ _ Je Jc=>?_
 have hm:=hZ.start
 refine au 3 ?_
 refine Ja rfl rfl (y_pnnil rfl rfl pb67.h) ?_
 refine au 6 ?_
 refine cT rfl rfl rfl (d_persist D m pb cb gb bb pc cc gc bc gm es ck cs B _ hm.Jz hz (by omega) (fun _=>false) _ _ gRt (fun k w1 _ _=>(d_kfalse k w1).mono fun v w2 h=>⟨h.1,h.2⟩)) fun v w hR=>?_
 obtain ⟨rfl,b9_b,hmc,hz9⟩:=hR
 replace hm:=hm.JQ (A:=[]) hmc
 refine au 7 ?_
 refine st hm 0 fun w hm=>?_
 refine au 7 ?_
 refine st hm 0 fun w hm=>?_
 refine au 1 ?_
 refine toN (fin Jc rfl .nil .nil ?_)
 exact ⟨rfl,_,(hz9.as (D2:=Pl.sDv D) rfl rfl (Pl.ok_restart hok)).dev _,(hm.Jp [0,1,2,3] 4 rfl)⟩
theorem d_new(x y:Int)(q:Option Addr)(cq:Nat)(ps:List SB)(w0:World)(hq:Rd w0 q (ps.flatMap encS))(hps:∀ s∈ps,Rd w0 s.p (s.bs.flatMap Jk))(hl:ps.length≤4611686018427387903)(hb:(ps.flatMap (·.bs)).length≤140737488355328):C Tryz.prog 46 [.int .i64 x,.int .i64 y,.slice q ps.length cq] w0 fun v w'=>if Pl.right x y (ps.flatMap (·.bs)).length=true then ∃ m Z,v=.pointer (some ⟨m,0,none⟩)∧JV 112 258 5 (Pl.nDv x.toNat y.toNat (ps.flatMap (·.bs))) m Z∧Mem w0 w' No Z else v=.pointer none∧Ext No w0 w':=by
 obtain ⟨BB,hBB⟩:∃ B9,ps.flatMap (·.bs)=B9:=⟨_,rfl⟩
 refine C_o Tryz.func46 fun κ _ Je Jc hm=>?_
 refine au 8 ?_
 refine cT rfl rfl rfl (Yc q cq ps _ (hq.Jj hm.to) (fun s hs=>(hps s hs).Jj hm.to) hl hb) fun v w hR=>?_
 obtain ⟨p_s,n_s,cap_s,g_s,b_s,rfl,ha_s,hmc⟩:=hR
 have hns:=ha_s.J0
 replace hm:=hm.Jt hmc
 rw [hBB] at ha_s hns hb
 refine au 5 ?_
 rcases right4 x y BB.length with h | ⟨h1,h2,h3⟩ | ⟨h1,h2,h3,h4⟩ | ⟨h1,h2,h3,h4⟩
 ·
  have hrt:Pl.right x y BB.length=false:=LN (by omega)
  refine au 4 ?_
  refine Ja rfl rfl (JA (c:=true) (VO rfl rfl) (LQ (by omega))) ?_
  refine au 25 ?_
  rw [hBB,LH (by rw [hrt]; decide)]
  exact ⟨rfl,hm.to⟩
 ·
  have hrt:Pl.right x y BB.length=false:=LN (by omega)
  refine au 4 ?_
  refine Ja rfl rfl (JA (c:=false) (VO rfl rfl) (LN (by omega))) ?_
  refine au 3 ?_
  refine Ja rfl rfl (Yy rfl rfl (by omega) (divC h2)) ?_
  refine Ja rfl rfl (JA (c:=true) (XE rfl rfl) (LQ (divT h2 h3))) ?_
  refine au 20 ?_
  rw [hBB,LH (by rw [hrt]; decide)]
  exact ⟨rfl,hm.to⟩
 ·
  have h0:0≤x*y:=Int.mul_nonneg (by omega) (by omega)
  have hrt:Pl.right x y BB.length=false:=LN (by omega)
  refine au 4 ?_
  refine Ja rfl rfl (JA (c:=false) (VO rfl rfl) (LN (by omega))) ?_
  refine au 3 ?_
  refine Ja rfl rfl (Yy rfl rfl (by omega) (divC h2)) ?_
  refine Ja rfl rfl (JA (c:=false) (XE rfl rfl) (LN (Int.not_lt.2 (divF h2 h3)))) ?_
  refine au 7 ?_
  refine Ja rfl rfl (JA (c:=true) (XE rfl rfl) (LQ (by omega))) ?_
  refine au 12 ?_
  rw [hBB,LH (by rw [hrt]; decide)]
  exact ⟨rfl,hm.to⟩
 ·
  obtain ⟨a,rfl⟩:∃ a:Nat,x=a:=⟨x.toNat,by omega⟩
  obtain ⟨c,rfl⟩:∃ c:Nat,y=c:=⟨y.toNat,by omega⟩
  have hac:(a:Int)*(c:Int)=((c*a:Nat):Int):=by rw [Nat.mul_comm]; norm_cast
  rw [hac] at h3 h4
  have hrt:Pl.right a c BB.length=true:=LQ (by rw [hac]; omega)
  have hMM:IntKind.i64.wrap ((a:Int)*(c:Int))=((c*a:Nat):Int):=by rw [hac]; exact Ql (by omega) (by omega)
  have hca:1≤c*a:=Nat.mul_pos (by omega) (by omega)
  refine au 4 ?_
  refine Ja rfl rfl (JA (c:=false) (VO rfl rfl) (LN (by omega))) ?_
  refine au 3 ?_
  refine Ja rfl rfl (Yy rfl rfl (by omega) (divC h2)) ?_
  refine Ja rfl rfl (JA (c:=false) (XE rfl rfl) (LN (Int.not_lt.2 (divF h2 (by rw [hac]; omega))))) ?_
  refine au 6 ?_
  refine Ja rfl rfl (Vy rfl rfl hMM) ?_
  refine Ja rfl rfl (JA (c:=false) (XE rfl rfl) (LN (by omega))) ?_
  refine au 11 ?_
  refine Ja rfl rfl (Vy rfl rfl hMM) ?_
  refine a_make rfl rfl rfl rfl sl22.h z5.h rfl (by omega) (by omega) (by omega) hm trivial fun g_b w hg_b ha_b hm hh=>?_
  refine au 2 ?_
  refine a_makeMap rfl rfl hm trivial fun g w hg_g hm hh=>?_
  refine Ja rfl rfl (Qe (cs:=[_,_,_,_,_,_,_,_,_,_,_,_]) z112.h ft112.h rfl rfl rfl rfl rfl) ?_
  refine bT hm fun m1 w hm=>?_
  refine au 11 ?_
  refine a_copyL (o:=0) (src:=BB.flatMap Jk) rfl rfl (by rw [slp_z (by omega)]; rfl) rfl rfl sl22.h (by omega) (ha_s.rd hm 3 rfl) (by rw [J0]; omega) (Zl _) ha_b hm 2 rfl fun b_b w ha_b hm=>?_
  rw [repB] at ha_b
  replace ha_b:=ha_b.to (Y0 (o:=0) (by rw [List.length_replicate]; omega))
  rw [Pl.put_zero (by omega)] at ha_b
  have hrow:dvV (Pl.nDv a c BB) (some ⟨g_b,0,none⟩) (c*a) none 0 g=[.int .i64 (a:Int),.slice (some ⟨g_b,0,none⟩) (c*a) (c*a),.int .i64 (-1),.int .u64 0,.int .i64 0,.int .i64 0,.int .i64 0,.int .i64 0,.int .i64 0,.slice none 0 0,.map (some g),.bool false]:=by unfold dvV; rw [Pl.new_len (by omega)]; rfl
  refine au 10 ?_
  rw [hBB,LI hrt,LD,LD]
  exact ⟨_,_,rfl,DvZ.dev (pb:=some ⟨g_b,0,none⟩) (cb:=c*a) (gb:=g_b) (bb:=b_b) (pc:=none) (cc:=0) (gc:=0) (bc:=.gap) (gm:=g) (es:=[]) (cs:=[]) (B:=[]) 0 ⟨by rw [show (Pl.nDv a c BB).dk.length=c*a from Pl.new_len (by omega)]; exact ha_b,.nil _ _ _ _,rfl,by simp,fun k=>rfl,Pl.ok_new (by omega) (by omega) (by omega) (by omega)⟩,by rw [hrow]; exact (hm.JP.pick [1,3,0,2] rfl)⟩
theorem d_write(D:Pl.Dv)(m:Nat)(pb:Option Addr)(cb gb:Nat)(bb:Blk)(pc:Option Addr)(cc gc:Nat)(bc:Blk)(gm:Nat)(es:List (Int×Int×Nat))(ck:Nat)(cs:List PdV)(B:List (Nat×Blk))(w0:World)(hZ:Jr w0 ((m,.row 112 (dvV D pb cb pc cc gm))::(gb,bb)::(gc,bc)::(gm,mpB es ck)::B))(hz:DvZ 112 258 5 D m pb cb gb bb pc cc gc bc gm es cs B)(q:Option Addr)(cq:Nat)(bs:List UInt8)(i:Int)(hq:Rd w0 q (bs.flatMap Jk))(hqX:bs.flatMap Jk≠[]→∀ a,q=some a→¬ (Mn (reals ((m,.row 112 (dvV D pb cb pc cc gm))::(gb,bb)::(gc,bc)::(gm,mpB es ck)::B))) a.block)(hle:bs.length≤cq)(hcl:D.ca.length≤1000000000):C Tryz.prog 287 [.pointer (some ⟨m,0,none⟩),.int .i64 i,.slice q bs.length cq] w0 fun v w'=>v=.int .i64 (Pl.Yt D i bs)∧∃ Z',JV 112 258 5 (Pl.wDv D i bs) m Z'∧Mem w0 w' (Mn (reals ((m,.row 112 (dvV D pb cb pc cc gm))::(gb,bb)::(gc,bc)::(gm,mpB es ck)::B))) Z':=by
 have hP:w0.heap[m]?=some (Blk.row 112 (dvV D pb cb pc cc gm)).Jd:=hZ.get (k:=0) rfl
 have hok:=hz.ok
 have o1:=hok.sz
 have o2:=hok.len
 have o3:=hok.cnt
 have o4:=hok.max
 have o5:D.cnt≤D.cnt*D.sz:=Lu _ o1
 have o6:=hz.ab.le
 have o7:D.sz≤D.cnt*D.sz:=L1 _ o3
 have ha_b:=hz.ab
 have ha_c:=hz.ac
 have hCl:=wr_len hz.cw
 have ow1:=hok.wr
 have hwc:Pl.Yt D i bs=if Pl.JI D i≠0 then Pl.JI D i else if bs.length≠D.sz then 2 else if D.wr=0 then 18 else 0:=rfl
 refine Vk Tryz.func287 rfl rfl rfl fun κ _ Je Jc=>?_
 have hm:=hZ.start
 refine au 2 ?_
 refine bT hm fun m1 w hm=>?_
 refine au 8 ?_
 refine cA rfl rfl rfl (d_check D m pb cb gb bb pc cc gc bc gm es ck cs B _ (hm.Jp [1,2,3,4] 5 rfl).Jz hz i) hm fun w hm=>?_
 refine au 9 ?_
 refine cd (fun hc0=>?_) fun hc0=>?_
 ·
  simp only [dT] at hc0
  refine au 9 ?_
  exact ⟨by rw [hwc,LI hc0],_,by rw [Pl.wDv_stop (.inl hc0)]; exact hz.dev ck,(hm.Jp [1,2,3,4] 5 rfl)⟩
 ·
  simp only [dF,Decidable.not_not] at hc0
  obtain ⟨_,hi0,hi1⟩:=code0 hc0
  refine au 15 ?_
  refine cd (fun hc1=>?_) fun hc1=>?_
  ·
   simp only [dT] at hc1
   have hbl:bs.length≠D.sz:=by omega
   refine au 8 ?_
   exact ⟨by rw [hwc,LH (by omega),LI hbl],_,by rw [Pl.wDv_stop (.inr hbl)]; exact hz.dev ck,(hm.Jp [1,2,3,4] 5 rfl)⟩
  ·
   simp only [dF,Decidable.not_not] at hc1
   have hbl:bs.length=D.sz:=by omega
   refine au 3 ?_
   refine dw [0,3,6,9,12,15,18,21,24,27,2,31] hm fun w hw hm0 hh hm=>?_
   refine au 11 ?_
   refine a_mapUpdate rfl rfl rfl rfl mi110 hm 4 rfl fun ck_g w hm=>?_
   refine au 3 ?_
   refine JS (.pure 0 (.pure 1 (.pure 2 (.pure 3 (.pure 4 (.pure 5 (.pure 6 (.act 7 (.pure 8 (.act 9 (.act 10 (.cut (.pure 11 (.pure 12 (.act 13 .done))))))))))))))) (fun j=>(j=gc∧bc.real=true)) mix (by kernel_rfl) hm fun w hw hm0 hh=>?_
   have hm:=hm0
   refine Ja rfl rfl (Jh rfl sc67.h (hm0.nd 0 rfl (hm0.neR 0 3 rfl rfl rfl)) rfl) ?_
   refine Ja rfl rfl (Jh rfl sc67.h (hm0.nd 0 rfl (hm0.neR 0 3 rfl rfl rfl)) rfl) ?_
   refine au 2 ?_
   refine Ja rfl rfl (Jh rfl sc109.h (hm0.nd 1 rfl (hm0.neR 1 3 rfl rfl rfl)) rfl) ?_
   refine au 2 ?_
   refine ca rfl rfl rfl (V0 q cq bs _ (hq.Yu hm.to hqX) (by omega)) fun v w hR=>?_
   obtain ⟨p_s,cap_s,g_s,b_s,rfl,ha_s,hmc⟩:=hR
   refine ⟨hh.ext hmc.to,?_⟩
   have hg_s:b_s.real=true→_:=fun hr=>(hmc.fresh _ Lo hr).resolve_left id
   replace hh:=hh.ext hmc.to
   replace hm:=hm.Jt hmc
   refine au 1 ?_
   refine Jb (l:=[_,_]) rfl rfl sl109.h z258.h rfl rfl rfl rfl rfl rfl rfl hm hh fun m2 w hg_m2 hm hh=>?_
   refine Xm rfl rfl rfl rfl rfl rfl sl109.h sl109.h z258.h rfl rfl (Rd.JL (hm.get (k:=0) rfl)) rfl ha_c hm 5 rfl (by omega) (by omega) hh (fun h=>.inr ⟨rfl,h⟩) fun p_c cap_c g_c b_c w _ ha_c hm hh hg_c=>?_
   refine au 3 ?_
   refine st hm 3 fun w hm=>?_
   have hz2:=hz.add ck hc0 hbl hcl ha_c ha_s
   have hrow2:∀ n:Int,dvV { Pl.VB D i bs with wr:=n } pb cb p_c cap_c gm=[.int .i64 (D.sz:Int),.slice pb D.dk.length cb,.int .i64 n,.int .u64 D.kp,.int .i64 (Pl.inc D.sW),.int .i64 D.sF,.int .i64 D.sC,.int .i64 (max D.sH (i+1)),.int .i64 (max D.sM (D.ca.length+1:Nat)),.slice p_c (D.ca.length+1) cap_c,.map (some gm),.bool D.dn]:=fun n=>by unfold dvV Pl.VB; simp only [Lc,LG]
   refine au 9 ?_
   refine Ja rfl rfl (J5 rfl rfl rfl) ?_
   refine au 3 ?_
   refine st hm 3 fun w hm=>?_
   refine au 3 ?_
   refine dw [0,3,6,9,12,15,18,21,24,2,27,30,33,37] hm fun w hw hm0 hh hm=>?_
   refine au 13 ?_
   refine st hm 3 fun w hm=>?_
   refine au 3 ?_
   refine dw [0,3,6,9,12,15,18,21,24,27,30,33,2,36,39,42,46] hm fun w hw hm0 hh hm=>?_
   refine au 16 ?_
   refine st hm 3 fun w hm=>?_
   refine au 13 ?_
   refine cd (fun hc2=>?_) fun hc2=>?_
   ·
    simp only [dT] at hc2
    refine au 8 ?_
    exact ⟨by rw [Pl.Xn hc0 hbl,LH (by omega)],_,by rw [Pl.wDv_off hc0 hbl hc2]; exact hz2.dev ck_g,by show Mem _ _ _ ((m,.row _ (dvV { Pl.VB D i bs with wr:=D.wr } pb cb p_c cap_c gm))::_); rw [hrow2]; exact (hm.Jp [3,4,5,6,1] 7 rfl)⟩
   ·
    simp only [dF] at hc2
    have hz3:=hz2.as (D2:={ Pl.VB D i bs with wr:=D.wr-1 }) rfl rfl (Pl.ok_wr hz2.ok (by omega))
    refine au 9 ?_
    refine Ja rfl rfl (QR rfl rfl (decI (by omega) (by omega))) ?_
    refine au 3 ?_
    refine st hm 3 fun w hm=>?_
    refine au 13 ?_
    refine cd (fun hc3=>?_) fun hc3=>?_
    ·
     simp only [dT] at hc3
     refine au 8 ?_
     exact ⟨by rw [Pl.Xn hc0 hbl,LH (by omega)],_,by rw [Pl.wDv_on hc0 hbl (by omega)]; exact hz3.dev ck_g,by show Mem _ _ _ ((m,.row _ (dvV { Pl.VB D i bs with wr:=(D.wr-1) } pb cb p_c cap_c gm))::_); rw [hrow2]; exact (hm.Jp [3,4,5,6,1] 7 rfl)⟩
    ·
     simp only [dF] at hc3
     have hw0:D.wr=0:=by omega
     rw [show D.wr-1=-1 by omega] at hz3
     refine au 6 ?_
     have hm3:Mem w0 w (Mn (reals ((m,.row 112 (dvV D pb cb pc cc gm))::(gb,bb)::(gc,bc)::(gm,mpB es ck)::B))) ((m1,.row 67 [.pointer (some ⟨m,0,none⟩)])::(m,.row 112 (dvV { Pl.VB D i bs with wr:=(D.wr-1) } pb cb p_c cap_c gm))::(gb,bb)::(g_c,b_c)::(gm,mpB (Zr es ck i D.ca.length) ck_g)::(g_s,b_s)::B):=by rw [hrow2]; exact (hm.Jp [2,3,4,5,6,1] 7 rfl)
     rw [show D.wr-1=-1 by omega] at hm3
     refine cT rfl rfl rfl (d_persist { Pl.VB D i bs with wr:=(-1) } m pb cb gb bb p_c cap_c g_c b_c gm _ ck_g _ _ _ hm3.Jz.tail hz3 (by show (D.ca++[(i.toNat,bs)]).length≤_; rw [Lc,LG]; omega) (Pl.keepB D.kp) _ _ gWt (fun k w1 h9 hE=>d_keep m1 _ { Pl.VB D i bs with wr:=(-1) } m pb cb p_c cap_c gm k w1 ((hE.same m1 (Lb.1 (hm3.get (k:=0) rfl)).1 hm3.notinL).trans (hm3.get (k:=0) rfl)) h9)) fun v w hR=>?_
     obtain ⟨rfl,b9_b,hmc,hz9⟩:=hR
     replace hm:=hm3.callZ1 hmc
     refine au 7 ?_
     refine st hm 1 fun w hm=>?_
     refine au 9 ?_
     refine Ja rfl rfl (J5 rfl rfl rfl) ?_
     refine au 3 ?_
     refine st hm 1 fun w hm=>?_
     refine au 9 ?_
     exact ⟨by rw [Pl.Xn hc0 hbl,LI hw0],_,by rw [Pl.wDv_cr hc0 hbl hw0]; exact (hz9.as (D2:={ Pl.persist { Pl.VB D i bs with wr:=(-1) } (Pl.keepB D.kp) with dn:=true,sC:=Pl.inc D.sC }) rfl rfl (by rw [← Pl.wDv_cr hc0 hbl hw0]; exact Pl.ok_write hok hcl)).dev _,(hm.Jp [1,2,3,4] 5 rfl)⟩
theorem o_arm(D:Pl.Dv)(m:Nat)(Z:List (Nat×Blk))(w0:World)(hZ:Jr w0 Z)(hz:JV 112 258 5 D m Z)(n k:Int)(hn:Pl.I64 n)(hk:0≤k∧k≤18446744073709551615):C Tryz.prog 76 [.pointer (some ⟨m,0,none⟩),.int .i64 n,.int .u64 k] w0 fun v w'=>v=.tuple ⟨[]⟩∧∃ Z',JV 112 258 5 (Pl.aDv D n k) m Z'∧Mem w0 w' (Mn (reals Z)) Z':=by
 obtain ⟨pb,cb,gb,bb,pc,cc,gc,bc,gm,es,ck,cs,B,rfl,hz⟩:=hz
 exact d_arm D m pb cb gb bb pc cc gc bc gm es ck cs B w0 hZ hz n k hn hk
theorem o_restart(D:Pl.Dv)(m:Nat)(Z:List (Nat×Blk))(w0:World)(hZ:Jr w0 Z)(hz:JV 112 258 5 D m Z)(hcl:D.ca.length≤1000000000):C Tryz.prog 108 [.pointer (some ⟨m,0,none⟩)] w0 fun v w'=>v=.tuple ⟨[]⟩∧∃ Z',JV 112 258 5 (Pl.sDv D) m Z'∧Mem w0 w' (Mn (reals Z)) Z':=by
 obtain ⟨pb,cb,gb,bb,pc,cc,gc,bc,gm,es,ck,cs,B,rfl,hz⟩:=hz
 exact d_restart D m pb cb gb bb pc cc gc bc gm es ck cs B w0 hZ hz hcl
theorem o_flush(D:Pl.Dv)(m:Nat)(Z:List (Nat×Blk))(w0:World)(hZ:Jr w0 Z)(hz:JV 112 258 5 D m Z)(hcl:D.ca.length≤1000000000):C Tryz.prog 265 [.pointer (some ⟨m,0,none⟩)] w0 fun v w'=>v=.int .i64 (Pl.QS D)∧∃ Z',JV 112 258 5 (Pl.fDv D) m Z'∧Mem w0 w' (Mn (reals Z)) Z':=by
 obtain ⟨pb,cb,gb,bb,pc,cc,gc,bc,gm,es,ck,cs,B,rfl,hz⟩:=hz
 exact d_flush D m pb cb gb bb pc cc gc bc gm es ck cs B w0 hZ hz hcl
theorem o_write(D:Pl.Dv)(m:Nat)(Z:List (Nat×Blk))(w0:World)(hZ:Jr w0 Z)(hz:JV 112 258 5 D m Z)(q:Option Addr)(cq:Nat)(bs:List UInt8)(i:Int)(hq:Rd w0 q (bs.flatMap Jk))(hqX:bs.flatMap Jk≠[]→∀ a,q=some a→¬ Mn (reals Z) a.block)(hle:bs.length≤cq)(hcl:D.ca.length≤1000000000):C Tryz.prog 287 [.pointer (some ⟨m,0,none⟩),.int .i64 i,.slice q bs.length cq] w0 fun v w'=>v=.int .i64 (Pl.Yt D i bs)∧∃ Z',JV 112 258 5 (Pl.wDv D i bs) m Z'∧Mem w0 w' (Mn (reals Z)) Z':=by
 obtain ⟨pb,cb,gb,bb,pc,cc,gc,bc,gm,es,ck,cs,B,rfl,hz⟩:=hz
 exact d_write D m pb cb gb bb pc cc gc bc gm es ck cs B w0 hZ hz q cq bs i hq hqX hle hcl
theorem Xt(D:Pl.Dv)(m:Nat)(Z:List (Nat×Blk))(w0:World)(hZ:Jr w0 Z)(hz:JV 112 258 5 D m Z):C Tryz.prog 73 [.pointer (some ⟨m,0,none⟩)] w0 fun v w'=>v=.int .i64 (D.sz:Int)∧Ext No w0 w':=by
 obtain ⟨pb,cb,gb,bb,pc,cc,gc,bc,gm,es,ck,cs,B,rfl,hz⟩:=hz
 exact d_size D m pb cb gb bb pc cc gc bc gm es ck cs B w0 hZ hz
theorem X6(D:Pl.Dv)(m:Nat)(Z:List (Nat×Blk))(w0:World)(hZ:Jr w0 Z)(hz:JV 112 258 5 D m Z):C Tryz.prog 74 [.pointer (some ⟨m,0,none⟩)] w0 fun v w'=>v=.int .i64 (D.cnt:Int)∧Ext No w0 w':=by
 obtain ⟨pb,cb,gb,bb,pc,cc,gc,bc,gm,es,ck,cs,B,rfl,hz⟩:=hz
 exact d_sectors D m pb cb gb bb pc cc gc bc gm es ck cs B w0 hZ hz
theorem o_stats(D:Pl.Dv)(m:Nat)(Z:List (Nat×Blk))(w0:World)(hZ:Jr w0 Z)(hz:JV 112 258 5 D m Z):C Tryz.prog 106 [.pointer (some ⟨m,0,none⟩)] w0 fun v w'=>v=.agg ⟨[.int .i64 D.sW,.int .i64 D.sF,.int .i64 D.sC,.int .i64 D.sH,.int .i64 D.sM]⟩∧Ext No w0 w':=by
 obtain ⟨pb,cb,gb,bb,pc,cc,gc,bc,gm,es,ck,cs,B,rfl,hz⟩:=hz
 exact d_stats D m pb cb gb bb pc cc gc bc gm es ck cs B w0 hZ hz
theorem o_disk(D:Pl.Dv)(m:Nat)(Z:List (Nat×Blk))(w0:World)(hZ:Jr w0 Z)(hz:JV 112 258 5 D m Z):C Tryz.prog 25 [.pointer (some ⟨m,0,none⟩)] w0 fun v w'=>∃ q c g b,v=.slice q D.dk.length c∧Acc 5 1 q (D.dk).length c ((D.dk).flatMap Jk) g b∧Mem w0 w' No [(g,b)]:=by
 obtain ⟨pb,cb,gb,bb,pc,cc,gc,bc,gm,es,ck,cs,B,rfl,hz⟩:=hz
 exact d_disk D m pb cb gb bb pc cc gc bc gm es ck cs B w0 hZ hz
theorem o_read(D:Pl.Dv)(m:Nat)(Z:List (Nat×Blk))(w0:World)(hZ:Jr w0 Z)(hz:JV 112 258 5 D m Z)(i:Int):C Tryz.prog 219 [.pointer (some ⟨m,0,none⟩),.int .i64 i] w0 fun v w'=>∃ q c g b,v=.tuple ⟨[.slice q (if Pl.JI D i=0 then Pl.rdS D i else []).length c,.int .i64 (Pl.JI D i)]⟩∧Acc 5 1 q ((if Pl.JI D i=0 then Pl.rdS D i else [])).length c (((if Pl.JI D i=0 then Pl.rdS D i else [])).flatMap Jk) g b∧Mem w0 w' No [(g,b)]:=by
 obtain ⟨pb,cb,gb,bb,pc,cc,gc,bc,gm,es,ck,cs,B,rfl,hz⟩:=hz
 exact d_read D m pb cb gb bb pc cc gc bc gm es ck cs B w0 hZ hz i
theorem o_new(x y:Int)(q:Option Addr)(cq:Nat)(ps:List SB)(w0:World)(hq:Rd w0 q (ps.flatMap encS))(hps:∀ s∈ps,Rd w0 s.p (s.bs.flatMap Jk))(hl:ps.length≤4611686018427387903)(hb:(ps.flatMap (·.bs)).length≤140737488355328)(BB:List UInt8)(hBB:ps.flatMap (·.bs)=BB)(hr:Pl.right x y BB.length=true):C Tryz.prog 46 [.int .i64 x,.int .i64 y,.slice q ps.length cq] w0 fun v w'=>∃ m Z,v=.pointer (some ⟨m,0,none⟩)∧JV 112 258 5 (Pl.nDv x.toNat y.toNat BB) m Z∧Mem w0 w' No Z:=by
 subst hBB
 exact (d_new x y q cq ps w0 hq hps hl hb).mono fun v w' h=>by rw [LI hr] at h; exact h
theorem w_fits(x n:Int)(w0:World)(hv:0≤x∧x≤18446744073709551615)(hn:Pl.I64 n):C Tryz.prog 215 [.agg ⟨[.int .u64 x,.int .i64 n]⟩] w0 fun v w'=>v=.bool (Pl.fits x n)∧Ext No w0 w':=by
 refine C_o Tryz.func215 fun κ _ Je Jc hm=>?_
 refine au 2 ?_
 refine bT hm fun m1 w hm=>?_
 refine au 18 ?_
 refine JK rfl rfl rfl (fun hc=>(Vy rfl (gx hc rfl) (Ql (by simp at hc; omega) (by simp at hc; omega)))) ?_
 refine JK rfl rfl rfl (fun hc=>(QR (gx hc rfl) rfl (Ql (by simp at hc; omega) (by simp at hc; omega)))) ?_
 refine JK rfl rfl rfl (fun hc=>(V1 (gx hc rfl) (gx hc rfl) (by simp at hc; omega) rfl)) ?_
 refine JK rfl rfl rfl (fun hc=>(V1 (gx hc rfl) rfl (by decide) rfl)) ?_
 refine au 7 ?_
 exact ⟨LM Value.bool (Pl.fits_eq hv),hm.to⟩
theorem w_fail(r e:Nat)(p:Option Addr)(n cap:Nat)(s:Pl.RS)(c a:Int)(w0:World)(hr:w0.heap[r]?=some (Blk.row e (rdV p n cap s)).Jd):C Tryz.prog 256 [.pointer (some ⟨r,0,none⟩),.int .i64 c,.int .i64 a] w0 fun v w'=>v=.tuple ⟨[]⟩∧Mem w0 w' (fun k=>k=r) [(r,.row e (rdV p n cap (s.fail c a)))]:=by
 refine Vk Tryz.func256 rfl rfl rfl fun κ _ Je Jc=>?_
 have hm:=Mem.Vq hr
 refine au 14 ?_
 refine cd (fun hc0=>?_) fun hc0=>?_
 ·
  simp only [bA,bB,bC,bD,bE,bF,dT,dF] at hc0
  refine au 7 ?_
  refine st hm 0 fun w hm=>?_
  refine au 1 ?_
  refine toN (fin Jc rfl .nil .nil ?_)
  have e:s.fail c a=if s.code=0∧c≠0 then { s with code:=c,fat:=a } else s:=rfl
  first | (rw [LI (by omega)] at e; rw [e]; exact ⟨rfl,hm⟩) | (rw [LH (by omega)] at e; rw [e]; exact ⟨rfl,hm⟩)
 ·
  simp only [bA,bB,bC,bD,bE,bF,dT,dF] at hc0
  refine au 1 ?_
  refine toN (fin Jc rfl .nil .nil ?_)
  have e:s.fail c a=if s.code=0∧c≠0 then { s with code:=c,fat:=a } else s:=rfl
  first | (rw [LI (by omega)] at e; rw [e]; exact ⟨rfl,hm⟩) | (rw [LH (by omega)] at e; rw [e]; exact ⟨rfl,hm⟩)
theorem w_take(r e:Nat)(p:Option Addr)(n cap:Nat)(s:Pl.RS)(m:Int)(w0:World)(hr:w0.heap[r]?=some (Blk.row e (rdV p n cap s)).Jd)(hcap:n≤cap)(hsp:cap≠0→∀ ad,p=some ad→ad.spot=none)(hat:s.at_≤n)(hlen:n≤140737488355328)(hm64:Pl.I64 m):C Tryz.prog 228 [.pointer (some ⟨r,0,none⟩),.int .i64 m] w0 fun v w'=>v=.tuple ⟨[tkV p cap s.at_ m (Pl.rtake n s m).2,.bool (Pl.rtake n s m).2]⟩∧Mem w0 w' (fun k=>k=r) [(r,.row e (rdV p n cap (Pl.rtake n s m).1))]:=by
 refine Vk Tryz.func228 rfl rfl rfl fun κ _ Je Jc=>?_
 have hm:=Mem.Vq hr
 refine au 19 ?_
 refine cd (fun hc0=>?_) fun hc0=>?_
 ·
  simp only [bA,bB,bC,bD,bE,bF,dT,dF] at hc0
  refine au 10 ?_
  have e:Pl.rtake n s m=(s,false):=by unfold Pl.rtake; rw [LI hc0]
  rw [e]; exact ⟨rfl,hm⟩
 ·
  simp only [bA,bB,bC,bD,bE,bF,dT,dF] at hc0
  refine au 7 ?_
  refine cd (fun hc1=>?_) fun hc1=>?_
  ·
   simp only [bA,bB,bC,bD,bE,bF,dT,dF] at hc1
   refine au 7 ?_
   refine cT rfl rfl rfl (w_fail _ _ _ _ _ s _ _ _ (hm.get (k:=0) rfl)) fun v w hR=>?_
   obtain ⟨rfl,hmc⟩:=hR
   replace hm:=hm.Qv 0 rfl hmc
   refine au 12 ?_
   have e:Pl.rtake n s m=(s.fail 2 s.at_,false):=by unfold Pl.rtake; rw [LH hc0,LI hc1]
   rw [e]; exact ⟨rfl,hm⟩
  ·
   simp only [bA,bB,bC,bD,bE,bF,dT,dF] at hc1
   refine au 1 ?_
   refine dw [0,3,6,9,12,15,18,21,24,27,30,33,36] hm fun w hw hm0 hh hm=>?_
   refine au 15 ?_
   refine cd (fun hc2=>?_) fun hc2=>?_
   ·
    simp only [bA,bB,bC,bD,bE,bF,dT,dF] at hc2
    refine au 8 ?_
    refine cT rfl rfl rfl (w_fail _ _ _ _ _ s _ _ _ (hm.get (k:=0) rfl)) fun v w hR=>?_
    obtain ⟨rfl,hmc⟩:=hR
    replace hm:=hm.Qv 0 rfl hmc
    refine au 12 ?_
    have e:Pl.rtake n s m=(s.fail 8 n,false):=by unfold Pl.rtake; rw [LH hc0,LH hc1,LI hc2]
    rw [e]; exact ⟨rfl,hm⟩
   ·
    simp only [bA,bB,bC,bD,bE,bF,dT,dF] at hc2
    refine au 13 ?_
    refine st hm 0 fun w hm=>?_
    refine au 3 ?_
    refine dw [0,3,6,9,12,15,18,21,24,27,30,33,36,39,42,45,48] hm fun w hw hm0 hh hm=>?_
    refine au 9 ?_
    refine Ja rfl rfl (QR rfl rfl ((Ql (by omega) (by omega)).trans (by omega:(s.at_:Int)+m-m=(s.at_:Int)))) ?_
    refine au 4 ?_
    refine Ja rfl rfl (JE (ln:=s.at_) (hn:=s.at_+m.toNat) rfl sl22.h ⟨_,rfl⟩ ⟨_,LM (fun x=>some (Value.int .i64 x)) (by omega)⟩ (by omega) (by omega) (fun h=>hsp (by omega))) ?_
    refine au 6 ?_
    have e:Pl.rtake n s m=({ s with at_:=s.at_+m.toNat },true):=by unfold Pl.rtake; rw [LH hc0,LH hc1,LH hc2]
    have h9:(s.at_:Int)+m=((s.at_+m.toNat:Nat):Int):=by omega
    rw [h9] at hm
    rw [e]; exact ⟨by simp only [tkV,cond_true]; rw [Kk],hm⟩
theorem w_num1(x c:Int)(r:Nat)(w0:World)(hr:w0.heap[r]?=some (Blk.row 55 [.int .u64 x]).Jd)(hx:0≤x∧x<72057594037927936)(hc:0≤c∧c<256):C Tryz.prog 259 [.int .u8 c,.pointer (some ⟨r,0,none⟩)] w0 fun v w'=>v=.int .u64 (x*256+c)∧Mem w0 w' (fun k=>k=r) [(r,.row 55 [.int .u64 (x*256+c)])]:=by
 refine Vk Tryz.func259 rfl rfl rfl fun κ _ Je Jc=>?_
 have hm:=Mem.Vq hr
 refine au 8 ?_
 refine Ja rfl rfl (y_shl rfl rfl (by decide) (shl8 hx)) ?_
 refine au 1 ?_
 refine Ja rfl rfl (JX rfl is5 it55 (u64w (by omega) (by omega))) ?_
 refine Ja rfl rfl (y_or_ rfl rfl (or8 (by omega) (by omega))) ?_
 refine st hm 0 fun w hm=>?_
 refine au 10 ?_
 exact ⟨rfl,hm⟩
theorem w_num(w0:World):C Tryz.prog 229 [] w0 fun v w'=>∃ m,v=.func (.func 259) #[] ⟨[.pointer (some ⟨m,0,none⟩)]⟩∧Mem w0 w' No [(m,.row 55 [.int .u64 0])]:=by
 refine C_o Tryz.func229 fun κ _ Je Jc hm=>?_
 refine au 7 ?_
 refine aT hm fun m1 w hm=>?_
 refine st hm 0 fun w hm=>?_
 refine au 10 ?_
 exact ⟨_,rfl,hm⟩
theorem w_uint(r e:Nat)(p:Option Addr)(cap:Nat)(bs:List UInt8)(s:Pl.RS)(m:Int)(w0:World)(hr:w0.heap[r]?=some (Blk.row e (rdV p bs.length cap s)).Jd)(hd:Rd w0 p (bs.flatMap Jk))(hne:bs.flatMap Jk≠[]→∀ ad,p=some ad→ad.block≠r)(hcap:bs.length≤cap)(hsp:cap≠0→∀ ad,p=some ad→ad.spot=none)(hat:s.at_≤bs.length)(hlen:bs.length≤140737488355328)(hm64:Pl.I64 m):C Tryz.prog 182 [.pointer (some ⟨r,0,none⟩),.int .i64 m] w0 fun v w'=>v=.int .u64 (Pl.ruint bs s m).2∧Mem w0 w' (fun k=>k=r) [(r,.row e (rdV p bs.length cap (Pl.ruint bs s m).1))]:=by
 refine Vk Tryz.func182 rfl rfl rfl fun κ _ Je Jc=>?_
 have hm:=Mem.Vq hr
 refine au 15 ?_
 refine Xc (ι:=Unit) rfl (ks:=[0,4]) (.cons rfl (.cons rfl .nil)) (fun x=>[(1,.int .i64 (Pl.usize m))]) (fun x w=>Mem w0 w (fun k=>k=r) [(r,.row e (rdV p bs.length cap s))]) ?_ (fun x w hM=>?_)
 ·
  refine au 10 ?_
  refine cd (fun hc1=>?_) fun hc1=>?_
  ·
   simp only [bA,bB,bC,bD,bE,bF,dT,dF] at hc1
   refine au 3 ?_
   exact Qt () hm ⟨by unfold Pl.usize; first | (rw [LI (by omega)]; rfl) | (rw [LH (by omega)]; rfl),rfl,rfl,trivial⟩
  ·
   simp only [bA,bB,bC,bD,bE,bF,dT,dF] at hc1
   refine au 1 ?_
   exact Qt () hm ⟨by unfold Pl.usize; first | (rw [LI (by omega)]; rfl) | (rw [LH (by omega)]; rfl),rfl,rfl,trivial⟩
 ·
  have hm:=hM
  refine au 6 ?_
  refine cT rfl rfl rfl (w_take r e p bs.length cap s (Pl.usize m) _ (hm.get (k:=0) rfl) hcap hsp hat hlen (by unfold Pl.usize; split <;> omega)) fun v w hR=>?_
  obtain ⟨rfl,hmc⟩:=hR
  replace hm:=hm.Qv 0 rfl hmc
  refine au 14 ?_
  refine cd (fun hc2=>?_) fun hc2=>?_
  ·
   have hok:(Pl.rtake bs.length s (Pl.usize m)).2=false:=by simpa using hc2
   refine au 8 ?_
   exact ⟨by unfold Pl.ruint; rw [hok]; rfl,by rw [Pl.ruint_fst]; exact hm⟩
  ·
   have hok:(Pl.rtake bs.length s (Pl.usize m)).2=true:=by simpa using hc2
   obtain ⟨hc0,hu0,hu1,hst⟩:=Pl.rtake_ok hok
   have hu8:Pl.usize m≤8:=by unfold Pl.usize; split <;> omega
   have hcs:Rd w0 (slp p cap s.at_ 1) (((bs.drop s.at_).take (Pl.usize m).toNat).flatMap Jk):=hd.sub hcap
   have hcl:((bs.drop s.at_).take (Pl.usize m).toNat).length=(Pl.usize m).toNat:=by rw [Lg,Lm]; omega
   generalize hbs:(bs.drop s.at_).take (Pl.usize m).toNat=cs at hcs hcl
   obtain ⟨pp,hpp⟩:∃ pp,slp p cap s.at_ 1=pp:=⟨_,rfl⟩
   rw [hpp] at hcs
   have hne':cs.flatMap Jk≠[]→∀ ad,pp=some ad→¬ ad.block=r:=fun h ad e=>by
    obtain ⟨a2,e2,e3⟩:=slp_block (hpp.trans e)
    rw [← e3]
    exact hne (fun e4=>by rw [nilB e4] at hbs; simp at hbs; rw [hbs] at h; exact h rfl) a2 e2
   refine au 9 ?_
   refine cT rfl rfl rfl (w_num _) fun v w hR=>?_
   obtain ⟨m_x,rfl,hmc⟩:=hR
   replace hm:=hm.Jt hmc
   refine au 6 ?_
   refine Ja rfl rfl (y_v (Jx rfl) (show _=Value.slice pp cs.length (cap-s.at_) by rw [hok,hcl,← hpp]; rfl)) ?_
   refine au 5 ?_
   refine Jg (ι:=Nat) rfl (ks:=[4,8,30,31]) (.cons rfl (.cons rfl (.cons rfl (.cons rfl .nil)))) (fun k=>[(32,.int .i64 k),(7,.int .u64 (Pl.num 0 (cs.take k)))]) (fun k w=>Mem w0 w (fun k=>k=r) [(m_x,.row 55 [.int .u64 (Pl.num 0 (cs.take k))]),(r,.row e (rdV p bs.length cap (Pl.rtake bs.length s (Pl.usize m)).1))]∧k≤cs.length) (fun k=>cs.length-k) 0 (⟨hm,LL _⟩) ⟨rfl,rfl,trivial⟩ (fun k w hM=>?_)
   obtain ⟨hm,hk⟩:=hM
   refine au 6 ?_
   refine cd (fun hc3=>?_) fun hc3=>?_
   ·
    simp only [dT] at hc3
    obtain ⟨x,hi⟩:∃ y_,cs[k]?=some y_:=⟨_,La (by omega)⟩
    obtain ⟨qb,qo,rfl⟩:=hcs.atI JG (by decide) hi
    have hnx:Pl.num 0 (cs.take (k+1))=Pl.num 0 (cs.take k)*256+x.toNat:=by rw [LC,hi,Pl.num_app]; rfl
    have hxl:x.toNat<256:=UInt8.toNat_lt x
    have hnb:=Pl.num_bnd (cs.take k) 0 (Int.le_refl _)
    have hpw:(256:Int) ^ (cs.take k).length≤256 ^ 7:=Pl.pow_le (by rw [Lg]; omega)
    have hp7:(256:Int) ^ 7=72057594037927936:=by decide
    refine au 7 ?_
    refine Ja rfl rfl (J3 rfl sc5.h (hcs.Yu hm.to hne').nt JG hi rfl) ?_
    refine au 6 ?_
    refine Qf rfl rfl rfl rfl go259 (w_num1 _ _ m_x _ (hm.get (k:=0) rfl) (by omega) (by omega)) fun v w hR=>?_
    obtain ⟨rfl,hmc⟩:=hR
    refine ⟨trivial,?_⟩
    replace hm:=hm.Qv 0 rfl hmc
    refine au 8 ?_
    refine next (k+1) (by omega) ⟨by rw [hnx]; exact hm,by omega⟩ ⟨nx k,by rw [hnx]; rfl,rfl,rfl,rfl,rfl,trivial⟩
   ·
    simp only [dF] at hc3
    obtain rfl:k=cs.length:=by omega
    rw [Lv] at hm
    refine au 13 ?_
    have e2:(Pl.ruint bs s m).2=Pl.num 0 cs:=by unfold Pl.ruint; rw [LI hok,hbs]
    rw [e2,Pl.ruint_fst]
    exact ⟨by rw [Lv],hm.tail⟩
theorem w_append(p:Option Addr)(cap:Nat)(bs:List UInt8)(q:Option Addr)(cq:Nat)(fs:List (Int×Int))(w0:World)(hx:Rd w0 p (bs.flatMap Jk))(hy:Rd w0 q (fs.flatMap encF))(hlen:bs.length≤1099511627776)(hl:fs.length≤1099511627776)(hok:∀ f∈fs,Pl.okF f):C Tryz.prog 173 [.slice p bs.length cap,.slice q fs.length cq] w0 fun v w'=>∃ p n cap g b,v=.tuple ⟨[.slice p n cap,.bool (Pl.V6 fs)]⟩∧Acc 5 1 p n cap ((Pl.wout bs fs).flatMap Jk) g b∧Mem w0 w' No [(g,b)]:=by
 refine C_o Tryz.func173 fun κ _ Je Jc hm=>?_
 refine au 9 ?_
 refine cT rfl rfl rfl (V0 p cap bs _ (hx.Jj hm.to) (by omega)) fun v w hR=>?_
 obtain ⟨p_s,cap_s,g_s,b_s,rfl,ha_s,hmc⟩:=hR
 have hg_s:b_s.real=true→_:=fun hr=>(hmc.fresh _ Lo hr).resolve_left id
 replace hm:=hm.Jt hmc
 refine au 12 ?_
 refine Jg (ι:=Nat×Ow) rfl (ks:=[12,13]) (.cons rfl (.cons rfl .nil)) (fun x=>[(14,.int .i64 x.1),(6,.slice x.2.p x.2.n x.2.cap)]) (fun x w=>Mem w0 w No [(x.2.g,x.2.b)]∧Acc 5 1 x.2.p x.2.n x.2.cap ((bs++Pl.Vl (fs.take x.1)).flatMap Jk) x.2.g x.2.b∧x.1≤fs.length∧Pl.V6 (fs.take x.1)=true∧x.2.n≤bs.length+8*x.1) (fun x=>fs.length-x.1) (0,⟨p_s,_,cap_s,g_s,b_s⟩) (⟨hm,by simpa [Pl.Vl] using ha_s,LL _,rfl,LP _⟩) ⟨rfl,rfl,trivial⟩ (fun x w hM=>?_)
 obtain ⟨hm,ha_s,hk,hfit,hn⟩:=hM
 refine au 6 ?_
 refine cd (fun hc0=>?_) fun hc0=>?_
 ·
  simp only [dT] at hc0
  obtain ⟨f,hi⟩:∃ y_,fs[x.1]?=some y_:=⟨_,La (by omega)⟩
  obtain ⟨qb,qo,rfl⟩:=hy.atI encF_len (by decide) hi
  have hf:=hok f (Ld hi)
  unfold Pl.okF at hf
  refine au 7 ?_
  refine Ja rfl rfl (JU rfl ag265.h (hy.Jj hm.to).nt encF_len hi) ?_
  refine aT hm fun m1 w hm=>?_
  refine st hm 0 fun w hm=>?_
  refine au 6 ?_
  refine cA rfl rfl rfl (w_fits _ _ _ hf.1 hf.2) hm fun w hm=>?_
  refine au 3 ?_
  refine cd (fun hc1=>?_) fun hc1=>?_
  ·
   simp only [bE] at hc1
   refine au 14 ?_
   have e:Pl.V6 fs=false:=Pl.fitA_not hi hc1
   exact ⟨none,0,0,0,.gap,by rw [e],by unfold Pl.wout; rw [e]; exact .nil _ _ _ _,(hm.drop (List.nil_sublist _)).JP⟩
  ·
   simp only [bF] at hc1
   obtain ⟨hf1,hf2⟩:=Pl.fits_bnd hc1
   refine au 11 ?_
   refine Jg (ι:=Nat×Ow×List UInt8) rfl (ks:=[8,12,13,14]) (.cons rfl (.cons rfl (.cons rfl (.cons rfl .nil)))) (fun y=>[(9,.int .i64 ((y.1:Int)-1)),(6,.slice y.2.1.p y.2.1.n y.2.1.cap)]) (fun y w=>Mem w0 w No [(m1,.row 265 (encF f)),(y.2.1.g,y.2.1.b)]∧Acc 5 1 y.2.1.p y.2.1.n y.2.1.cap ((bs++Pl.Vl (fs.take x.1)++y.2.2).flatMap Jk) y.2.1.g y.2.1.b∧y.2.2++Pl.be f.1 y.1=Pl.be f.1 f.2.toNat∧y.1≤8∧y.2.1.n+y.1≤bs.length+8*x.1+8) (fun y=>y.1) (f.2.toNat,x.2,[]) (⟨hm,by simpa using ha_s,rfl,by omega,by simp only; omega⟩) ⟨(LM (fun z=>some (Value.int .i64 z)) (by simp only; omega)),rfl,trivial⟩ (fun y w hM=>?_)
   obtain ⟨hm,ha_s,hpre,hj,hn2⟩:=hM
   refine au 7 ?_
   refine cd (fun hc2=>?_) fun hc2=>?_
   ·
    simp only [dT] at hc2
    refine au 10 ?_
    refine Ja rfl rfl (V1 rfl rfl (by omega) rfl) ?_
    refine Ja rfl rfl (JX rfl is55 it5 (shrB (k:=y.1-1) hf.1.1 (by omega) (by omega))) ?_
    refine Jb (l:=[_]) rfl rfl sl22.h z5.h rfl rfl rfl rfl rfl rfl rfl hm trivial fun m2 w hg_m2 hm hh=>?_
    refine Jy rfl rfl rfl rfl rfl rfl sl22.h sl22.h z5.h rfl rfl (Rd.JL (hm.get (k:=0) rfl)) rfl ha_s hm 2 rfl (by omega) (by omega) fun p_s cap_s g_s b_s w ha_s hm=>?_
    refine au 9 ?_
    refine next (y.1-1,⟨p_s,_,cap_s,g_s,b_s⟩,y.2.2++[Pl.byt f.1 (y.1-1)]) (by simp only; omega) ⟨hm.tail,ha_s.to ?_,?_,by simp only; omega,by simp only; omega⟩ ⟨nx1 y.1 (by omega),rfl,rfl,rfl,rfl,rfl,trivial⟩
    · simp [Jk]
    · rw [← hpre]; simp only [Lp,List.singleton_append]; rw [show y.1=(y.1-1)+1 by omega]; rfl
   ·
    simp only [dF] at hc2
    refine au 10 ?_
    refine next (x.1+1,y.2.1) (by simp only; omega) ⟨hm.tail,ha_s.to ?_,by simp only; omega,?_,by simp only; omega⟩ ⟨nx x.1,rfl,rfl,rfl,trivial⟩
    · have hy0:y.1=0:=by omega
      rw [hy0,Pl.be,Lq] at hpre
      simp only [Pl.putB_next hi,← hpre,Lp]
    · simp only [Pl.fitA_next hi,hfit,hc1]; rfl
 ·
  simp only [dF] at hc0
  have hk:x.1=fs.length:=by omega
  rw [hk,Lv] at ha_s hfit
  refine au 14 ?_
  exact ⟨_,_,_,_,_,by rw [hfit],by unfold Pl.wout; rw [hfit]; exact ha_s,hm⟩
theorem b_prefix(p q:Option Addr)(c1 c2:Nat)(xs ys:List UInt8)(w0:World)(hx:Rd w0 p (xs.flatMap Jk))(hy:Rd w0 q (ys.flatMap Jk))(hc:xs.length≤c1)(hsp:c1≠0→∀ ad,p=some ad→ad.spot=none):C Tryz.prog 255 [.slice p xs.length c1,.slice q ys.length c2] w0 fun v w'=>v=.bool (decide (ys.length≤xs.length)&&decide (xs.take ys.length=ys))∧Ext No w0 w':=by
 refine C_o Tryz.func255 fun κ _ Je Jc hm=>?_
 refine au 15 ?_
 refine JK rfl rfl rfl (fun hc=>(y_len (gx hc rfl) rfl sl22.h)) ?_
 refine JK rfl rfl rfl (fun hc=>(JE (ln:=0) (hn:=ys.length) (gx hc rfl) sl22.h rfl ⟨_,(gx hc rfl)⟩ (LL _) (by simp at hc; omega) (fun h=>hsp (by omega)))) ?_
 refine au 1 ?_
 refine J1 rfl rfl rfl (fun hc=>(J8 (gx hc rfl) (J8 (gx hc rfl) QL))) go80 (fun hc=>(C.eqv (b_equal p q c1 c2 (xs.take ys.length) ys _ ((hx.Jj hm.to).takeB _) (hy.Jj hm.to)) (by simp at hc; rw [Lg,Nat.min_eq_left (by omega),VR hsp]; rfl))) trivial fun w hE hh=>?_
 replace hm:=hm.ext hE
 refine au 6 ?_
 exact ⟨LM Value.bool (by simp only [Int.ofNat_le]),hm.to⟩
theorem w_fault(r e:Nat)(p:Option Addr)(n cap:Nat)(s:Pl.RS)(w0:World)(hr:w0.heap[r]?=some (Blk.row e (rdV p n cap s)).Jd):C Tryz.prog 222 [.pointer (some ⟨r,0,none⟩)] w0 fun v w'=>v=.agg ⟨[.int .i64 s.code,.int .i64 s.fat]⟩∧Ext No w0 w':=by
 refine C_o Tryz.func222 fun κ _ Je Jc hm=>?_
 refine au 2 ?_
 refine aT hm fun m1 w hm=>?_
 refine au 18 ?_
 refine Ja rfl rfl (Jm (s:=2) (vs:=[_,_]) rfl ag46.h (Qo ((hm.to.same _ (Lb.1 hr).1 id).trans hr)) rfl) ?_
 refine st hm 0 fun w hm=>?_
 refine au 4 ?_
 exact ⟨rfl,hm.to⟩
theorem w_length(r e:Nat)(p:Option Addr)(cap:Nat)(bs:List UInt8)(s:Pl.RS)(w0:World)(hr:w0.heap[r]?=some (Blk.row e (rdV p bs.length cap s)).Jd)(hd:Rd w0 p (bs.flatMap Jk))(hne:bs.flatMap Jk≠[]→∀ ad,p=some ad→ad.block≠r)(hcap:bs.length≤cap)(hsp:cap≠0→∀ ad,p=some ad→ad.spot=none)(hat:s.at_≤bs.length)(hlen:bs.length≤140737488355328):C Tryz.prog 221 [.pointer (some ⟨r,0,none⟩)] w0 fun v w'=>v=.int .i64 (Pl.rlength bs s).2∧Mem w0 w' (fun k=>k=r) [(r,.row e (rdV p bs.length cap (Pl.rlength bs s).1))]:=by
 refine Vk Tryz.func221 rfl rfl rfl fun κ _ Je Jc=>?_
 have hm:=Mem.Vq hr
 refine au 28 ?_
 refine cT rfl rfl rfl (w_uint r e p cap bs s 8 _ (hm.get (k:=0) rfl) (hd.Yu hm.to hne) hne hcap hsp hat hlen (by omega)) fun v w hR=>?_
 obtain ⟨rfl,hmc⟩:=hR
 replace hm:=hm.Qv 0 rfl hmc
 have hub:=Pl.ruint_bnd bs s 8
 refine au 10 ?_
 refine cd (fun hc1=>?_) fun hc1=>?_
 ·
  simp only [bA,bB,bC,bD,bE,bF,dT,dF] at hc1
  refine au 6 ?_
  refine cT rfl rfl rfl (w_fail r e p bs.length cap (Pl.ruint bs s 8).1 2 s.at_ _ (hm.get (k:=0) rfl)) fun v w hR=>?_
  obtain ⟨rfl,hmc⟩:=hR
  replace hm:=hm.Qv 0 rfl hmc
  refine au 10 ?_
  have e2:Pl.rlength bs s=((Pl.ruint bs s 8).1.fail 2 s.at_,0):=by unfold Pl.rlength; rw [LI hc1]
  rw [e2]; exact ⟨rfl,hm⟩
 ·
  simp only [bA,bB,bC,bD,bE,bF,dT,dF] at hc1
  refine au 5 ?_
  refine Ja rfl rfl (JX rfl is55 it3 (Ql (by omega) (by omega))) ?_
  refine au 5 ?_
  have e2:Pl.rlength bs s=Pl.ruint bs s 8:=by unfold Pl.rlength; rw [LH hc1]
  rw [e2]; exact ⟨rfl,hm⟩
theorem w_expect(r e:Nat)(p:Option Addr)(cap:Nat)(bs:List UInt8)(s:Pl.RS)(q:Option Addr)(cq:Nat)(ds:List UInt8)(c:Int)(w0:World)(hr:w0.heap[r]?=some (Blk.row e (rdV p bs.length cap s)).Jd)(hd:Rd w0 p (bs.flatMap Jk))(hne:bs.flatMap Jk≠[]→∀ ad,p=some ad→ad.block≠r)(hcap:bs.length≤cap)(hsp:cap≠0→∀ ad,p=some ad→ad.spot=none)(hat:s.at_≤bs.length)(hlen:bs.length≤140737488355328)(hds:Rd w0 q (ds.flatMap Jk))(hqr:ds.flatMap Jk≠[]→∀ ad,q=some ad→ad.block≠r)(hdl:ds.length≤140737488355328)(hdc:ds.length≤cq)(hdp:cq≠0→∀ ad,q=some ad→ad.spot=none):C Tryz.prog 220 [.pointer (some ⟨r,0,none⟩),.slice q ds.length cq,.int .i64 c] w0 fun v w'=>v=.bool (Pl.rexpect bs s ds c).2∧Mem w0 w' (fun k=>k=r) [(r,.row e (rdV p bs.length cap (Pl.rexpect bs s ds c).1))]:=by
 refine Vk Tryz.func220 rfl rfl rfl fun κ _ Je Jc=>?_
 have hm:=Mem.Vq hr
 refine au 21 ?_
 refine cd (fun hc0=>?_) fun hc0=>?_
 ·
  simp only [bA,bB,bC,bD,bE,bF,dT,dF] at hc0
  refine au 8 ?_
  exact ⟨by rw [Pl.rexpect_bad hc0],by rw [Pl.rexpect_bad hc0]; exact hm⟩
 ·
  simp only [bA,bB,bC,bD,bE,bF,dT,dF] at hc0
  refine au 4 ?_
  refine dw [0,3,6,9,12,15,18,21,24,27,30,33] hm fun w hw hm0 hh hm=>?_
  refine au 10 ?_
  refine Ja rfl rfl (JE (ln:=s.at_) (hn:=bs.length) rfl sl22.h ⟨_,rfl⟩ rfl (by omega) hcap (fun h=>hsp (by omega))) ?_
  refine au 4 ?_
  have hl2:((bs.drop s.at_).take (min ds.length (bs.length-s.at_))).length=min ds.length (bs.length-s.at_):=by rw [Lg,Lm]; omega
  ·
   refine au 8 ?_
   refine Ja rfl rfl (JE (ln:=0) (hn:=min ds.length (bs.length-s.at_)) rfl sl22.h rfl ⟨_,LM (fun x=>some (Value.int .i64 x)) (by omega)⟩ (LL _) (by omega) (fun h ad e=>XX (fun _=>hsp (by omega)) (show cap≠s.at_ by omega) e)) ?_
   refine cA rfl rfl rfl (C.eqv (b_prefix q (slp p cap s.at_ 1) cq (cap-s.at_) ds ((bs.drop s.at_).take (min ds.length (bs.length-s.at_))) _ (hds.Yu hm.to hqr) ((hd.Yu hm.to hne).sub hcap) hdc hdp) (by rw [hl2,VR (fun h ad e=>XX (fun _=>hsp (by omega)) (show cap≠s.at_ by omega) e)]; rfl)) hm fun w hm=>?_
   refine au 3 ?_
   refine cd (fun hc1=>?_) fun hc1=>?_
   ·
    simp only [bE,hl2] at hc1
    have hne2:ds.take (min ds.length (bs.length-s.at_))≠(bs.drop s.at_).take (min ds.length (bs.length-s.at_)):=fun e=>by rw [LQ e,LQ (Nat.min_le_left _ _)] at hc1; cases hc1
    refine au 1 ?_
    refine JS (.pure 0 (.pure 1 (.pure 2 (.pure 3 (.pure 4 (.pure 5 (.pure 6 (.pure 7 (.act 8 (.act 9 .done)))))))))) (fun j=>j=r) mix (by kernel_rfl) hm fun w hw hm0 hh=>?_
    have hm:=hm0
    refine au 8 ?_
    refine a_pure rfl rfl rfl (Jh rfl sc3.h (hm.nt 0 rfl) rfl) hh ?_
    refine ca rfl rfl rfl (w_fail _ _ _ _ _ s _ _ _ (hm.get (k:=0) rfl)) fun v w hR=>?_
    obtain ⟨rfl,hmc⟩:=hR
    refine ⟨hh.turn hmc.to fun _ h=>h,?_⟩
    replace hh:=hh.turn hmc.to fun _ h=>h
    replace hm:=hm.Qv 0 rfl hmc
    refine au 10 ?_
    have e2:Pl.rexpect bs s ds c=(s.fail c s.at_,false):=by unfold Pl.rexpect; rw [LH hc0,LI hne2]
    rw [e2]; exact ⟨rfl,hm⟩
   ·
    simp only [bF,bA,dT,hl2] at hc1
    refine au 9 ?_
    refine cT rfl rfl rfl (w_take r e p bs.length cap s ds.length _ (hm.get (k:=0) rfl) hcap hsp hat hlen (by omega)) fun v w hR=>?_
    obtain ⟨rfl,hmc⟩:=hR
    replace hm:=hm.Qv 0 rfl hmc
    refine au 15 ?_
    have e2:Pl.rexpect bs s ds c=Pl.rtake bs.length s ds.length:=by unfold Pl.rexpect; rw [LH hc0,LH (not_not_intro hc1.2)]
    rw [e2]; exact ⟨rfl,hm⟩
theorem w_new(p:Option Addr)(cap:Nat)(bs:List UInt8)(w0:World)(hx:Rd w0 p (bs.flatMap Jk))(hlen:bs.length≤140737488355328):C Tryz.prog 181 [.slice p bs.length cap] w0 fun v w'=>∃ m q c g b,v=.pointer (some ⟨m,0,none⟩)∧Acc 5 1 q bs.length c (bs.flatMap Jk) g b∧Mem w0 w' No [(m,.row 329 (rdV q bs.length c ⟨0,0,0⟩)),(g,b)]:=by
 refine C_o Tryz.func181 fun κ _ Je Jc hm=>?_
 refine au 8 ?_
 refine cT rfl rfl rfl (V0 p cap bs _ (hx.Jj hm.to) (by omega)) fun v w hR=>?_
 obtain ⟨p_s,cap_s,g_s,b_s,rfl,ha_s,hmc⟩:=hR
 have hg_s:b_s.real=true→_:=fun hr=>(hmc.fresh _ Lo hr).resolve_left id
 replace hm:=hm.Jt hmc
 refine Ja rfl rfl (Qe (cs:=[_,_,_,_]) z327.h ft327.h rfl rfl rfl rfl rfl) ?_
 refine Ja rfl rfl (Qe (cs:=[_,_,_,_]) z329.h ft329.h rfl rfl rfl rfl rfl) ?_
 refine bT hm fun m1 w hm=>?_
 refine au 5 ?_
 exact ⟨_,_,_,_,_,rfl,ha_s,hm⟩
theorem k_table(w0:World):C Tryz.prog 301 [] w0 fun v w'=>v=.agg ⟨tabL 16⟩∧Ext No w0 w':=by
 refine C_o Tryz.func301 fun κ _ Je Jc hm=>?_
 refine au 2 ?_
 refine aT hm fun m1 w hm=>?_
 refine au 4 ?_
 refine aT hm fun m2 w hm=>?_
 refine au 9 ?_
 refine Jg (ι:=Nat) rfl (ks:=[0,1]) (.cons rfl (.cons rfl .nil)) (fun x=>[(4,.int .i64 x)]) (fun x w=>Mem w0 w No [(m2,.row 186 (tabL x)),(m1,.row 186 [.int .u32 0,.int .u32 0,.int .u32 0,.int .u32 0,.int .u32 0,.int .u32 0,.int .u32 0,.int .u32 0,.int .u32 0,.int .u32 0,.int .u32 0,.int .u32 0,.int .u32 0,.int .u32 0,.int .u32 0,.int .u32 0])]∧x≤16) (fun x=>16-x) 0 (⟨hm,LL _⟩) ⟨rfl,trivial⟩ (fun x w hM=>?_)
 obtain ⟨hm,hk⟩:=hM
 refine au 6 ?_
 refine cd (fun hc0=>?_) fun hc0=>?_
 ·
  simp only [dT] at hc0
  refine au 13 ?_
  refine Ja rfl rfl (JX rfl is3 it120 (w_ofN (by omega))) ?_
  refine au 10 ?_
  refine Jg (ι:=Nat) rfl (ks:=[0,1,2,4]) (.cons rfl (.cons rfl (.cons rfl (.cons rfl .nil)))) (fun y=>[(9,.int .i64 y),(3,.int .u32 ((crcN y (UInt32.ofNat x)).toNat:Int))]) (fun y w=>Mem w0 w No [(m2,.row 186 (tabL x)),(m1,.row 186 [.int .u32 0,.int .u32 0,.int .u32 0,.int .u32 0,.int .u32 0,.int .u32 0,.int .u32 0,.int .u32 0,.int .u32 0,.int .u32 0,.int .u32 0,.int .u32 0,.int .u32 0,.int .u32 0,.int .u32 0,.int .u32 0])]∧y≤4) (fun y=>4-y) 0 (⟨hm,LL _⟩) ⟨rfl,rfl,trivial⟩ (fun y w hM=>?_)
  obtain ⟨hm,hy⟩:=hM
  refine au 6 ?_
  refine cd (fun hc1=>?_) fun hc1=>?_
  ·
   simp only [dT] at hc1
   refine au 6 ?_
   refine Ja rfl rfl (V1 rfl rfl (by decide) (Yz 1 rfl (by decide))) ?_
   refine au 1 ?_
   refine Ja rfl rfl (VA rfl (cW 1 rfl) w_and) ?_
   refine Ja rfl rfl (y_neg rfl w_neg) ?_
   refine Ja rfl rfl (VA (cW 3988292384 rfl) rfl w_and) ?_
   refine Ja rfl rfl (Vw rfl rfl XF) ?_
   refine au 8 ?_
   refine next (y+1) (by omega) ⟨hm,by omega⟩ ⟨nx y,rfl,rfl,rfl,rfl,rfl,trivial⟩
  ·
   simp only [dF] at hc1
   obtain rfl:y=4:=by omega
   refine au 8 ?_
   refine Ja rfl rfl (JO rfl rfl ar186 (by omega) (by omega)) ?_
   refine Vi rfl rfl rfl rfl sz120 rfl hm 0 rfl (by rw [Nat.ble_eq,tab_len]; simp only [LG]; omega) fun w hm=>?_
   have hm2:Mem w0 w No [(m2,.row 186 (upds (tabL x) (0+((x:Nat):Int).toNat*1) [.int .u32 ((Pl.Yv (UInt32.ofNat x)).toNat:Int)])),(m1,.row 186 [.int .u32 0,.int .u32 0,.int .u32 0,.int .u32 0,.int .u32 0,.int .u32 0,.int .u32 0,.int .u32 0,.int .u32 0,.int .u32 0,.int .u32 0,.int .u32 0,.int .u32 0,.int .u32 0,.int .u32 0,.int .u32 0])]:=hm
   rw [tab_set (by omega)] at hm2
   refine au 7 ?_
   refine next (x+1) (by omega) ⟨hm2,by omega⟩ ⟨nx x,rfl,rfl,trivial⟩
 ·
  simp only [dF] at hc0
  obtain rfl:x=16:=by omega
  refine au 7 ?_
  refine Ja rfl rfl (Jm (s:=16) (vs:=[_,_,_,_,_,_,_,_,_,_,_,_,_,_,_,_]) rfl ag186.h (hm.nt 0 rfl) rfl) ?_
  refine st hm 1 fun w hm=>?_
  refine au 3 ?_
  refine toR (fin Je rfl (.cell rfl (Ju (vs:=[_,_,_,_,_,_,_,_,_,_,_,_,_,_,_,_]) ag186.h (hm.get (k:=1) rfl) rfl) .nil) .one ?_)
  exact ⟨rfl,hm.to⟩
theorem k_extend(sum:UInt32)(q:Option Addr)(cq:Nat)(ps:List SB)(w0:World)(hq:Rd w0 q (ps.flatMap encS))(hps:∀ s∈ps,Rd w0 s.p (s.bs.flatMap Jk))(hl:ps.length≤4611686018427387903)(hlb:∀ s∈ps,s.bs.length≤4611686018427387903):C Tryz.prog 281 [.int .u32 ((sum).toNat:Int),.slice q ps.length cq] w0 fun v w'=>v=.int .u32 ((~~~ (Pl.VY (~~~ sum) (ps.flatMap (·.bs)))).toNat:Int)∧Ext No w0 w':=by
 refine C_o Tryz.func281 fun κ _ Je Jc hm=>?_
 refine au 2 ?_
 refine Ja rfl rfl (J4 (cW 0 rfl)) ?_
 refine au 4 ?_
 refine cA rfl rfl rfl (k_table _) hm fun w hm=>?_
 refine aT hm fun m1 w hm=>?_
 refine st hm 0 fun w hm=>?_
 replace hm:Mem w0 w No [(m1,.row 186 (tabL 16))]:=hm
 refine au 5 ?_
 refine Ja rfl rfl (y_com rfl rfl w_com) ?_
 refine au 12 ?_
 refine Jg (ι:=Nat) rfl (ks:=[4,5,14,15]) (.cons rfl (.cons rfl (.cons rfl (.cons rfl .nil)))) (fun x=>[(16,.int .i64 x),(6,.int .u32 (((Pl.VY (~~~ sum) ((ps.take x).flatMap (·.bs)))).toNat:Int))]) (fun x w=>Mem w0 w No [(m1,.row 186 (tabL 16))]∧x≤ps.length) (fun x=>ps.length-x) 0 (⟨hm,LL _⟩) ⟨rfl,rfl,trivial⟩ (fun x w hM=>?_)
 obtain ⟨hm,hk⟩:=hM
 refine au 6 ?_
 refine cd (fun hc0=>?_) fun hc0=>?_
 ·
  simp only [dT] at hc0
  obtain ⟨s,hi⟩:∃ y_,ps[x]?=some y_:=⟨_,La (by omega)⟩
  obtain ⟨qb,qo,rfl⟩:=hq.atI V7 (by decide) hi
  have hsl:=hlb s (Ld hi)
  have hnx:(Pl.VY (~~~ sum) ((ps.take (x+1)).flatMap (·.bs)))=Pl.VY (Pl.VY (~~~ sum) ((ps.take x).flatMap (·.bs))) s.bs:=by rw [LC,hi]; simp only [Option.toList,Lh,Lk,LY,Lq,Pl.crcReg_app]
  refine au 7 ?_
  refine Ja rfl rfl (J3 rfl sc22.h (hq.Jj hm.to).nt V7 hi rfl) ?_
  refine au 11 ?_
  refine Jg (ι:=Nat) rfl (ks:=[4,5,14,15,16,20,21]) (.cons rfl (.cons rfl (.cons rfl (.cons rfl (.cons rfl (.cons rfl (.cons rfl .nil))))))) (fun y=>[(22,.int .i64 y),(6,.int .u32 ((Pl.VY (Pl.VY (~~~ sum) ((ps.take x).flatMap (·.bs))) (s.bs.take y)).toNat:Int))]) (fun y w=>Mem w0 w No [(m1,.row 186 (tabL 16))]∧y≤s.bs.length) (fun y=>s.bs.length-y) 0 (⟨hm,LL _⟩) ⟨rfl,rfl,trivial⟩ (fun y w hM=>?_)
  obtain ⟨hm,hy⟩:=hM
  refine au 6 ?_
  refine cd (fun hc1=>?_) fun hc1=>?_
  ·
   simp only [dT] at hc1
   obtain ⟨c,hj⟩:∃ y_,s.bs[y]?=some y_:=⟨_,La (by omega)⟩
   obtain ⟨b2,o2,hp2⟩:=(hps s (Ld hi)).atI JG (by decide) hj
   refine au 6 ?_
   refine Ja rfl rfl (Qy rfl rfl sl22.h hp2 (by omega) (by omega)) ?_
   refine Ja rfl rfl (J3 rfl sc5.h (hp2▸(hps s (Ld hi)).Jj hm.to).nt JG hj rfl) ?_
   refine au 7 ?_
   refine Ja rfl rfl (JX rfl is5 it120 w_of8) ?_
   refine Ja rfl rfl (Vw rfl rfl XF) ?_
   refine au 6 ?_
   refine Ja rfl rfl (V1 rfl rfl (by decide) (Yz 4 rfl (by decide))) ?_
   refine au 1 ?_
   refine Ja rfl rfl (VA rfl (cW 15 rfl) w_and) ?_
   refine Ja rfl rfl (JO rfl rfl ar186 (Int.natCast_nonneg _) (by rw [Pl.and15]; omega)) ?_
   refine Ja rfl rfl (Jh rfl sc120.h (hm.nt 0 rfl) (tab_get _ (by rw [Pl.and15]; omega))) ?_
   refine Ja rfl rfl (Vw rfl rfl XF) ?_
   refine au 5 ?_
   refine Ja rfl rfl (V1 rfl rfl (by decide) (Yz 4 rfl (by decide))) ?_
   refine au 1 ?_
   refine Ja rfl rfl (VA rfl (cW 15 rfl) w_and) ?_
   refine Ja rfl rfl (JO rfl rfl ar186 (Int.natCast_nonneg _) (by rw [Pl.and15]; omega)) ?_
   refine Ja rfl rfl (Jh rfl sc120.h (hm.nt 0 rfl) (tab_get _ (by rw [Pl.and15]; omega))) ?_
   refine Ja rfl rfl (Vw rfl rfl XF) ?_
   refine au 8 ?_
   refine next (y+1) (by omega) ⟨hm,by omega⟩ ⟨nx y,by rw [crcReg_next hj,← crc_byte]; rfl,rfl,rfl,rfl,rfl,rfl,rfl,rfl,trivial⟩
  ·
   simp only [dF] at hc1
   have hye:s.bs.take y=s.bs:=LZ (by omega)
   rw [← hye] at hnx
   refine au 10 ?_
   refine next (x+1) (by omega) ⟨hm,by omega⟩ ⟨nx x,by rw [hnx,hye]; rfl,rfl,rfl,rfl,rfl,trivial⟩
 ·
  simp only [dF] at hc0
  obtain rfl:x=ps.length:=by omega
  refine au 8 ?_
  refine Ja rfl rfl (y_com rfl rfl w_com) ?_
  refine au 5 ?_
  exact ⟨by rw [Lv],hm.to⟩
theorem k_of(q:Option Addr)(cq:Nat)(ps:List SB)(w0:World)(hq:Rd w0 q (ps.flatMap encS))(hps:∀ s∈ps,Rd w0 s.p (s.bs.flatMap Jk))(hl:ps.length≤4611686018427387903)(hlb:∀ s∈ps,s.bs.length≤4611686018427387903):C Tryz.prog 257 [.slice q ps.length cq] w0 fun v w'=>v=.int .u32 ((Pl.crc (ps.flatMap (·.bs))).toNat:Int)∧Ext No w0 w':=by
 refine C_o Tryz.func257 fun κ _ Je Jc hm=>?_
 refine au 2 ?_
 refine Ja rfl rfl (J4 (cW 0 rfl)) ?_
 refine au 5 ?_
 refine a_call rfl rfl (J8 (cW 0 rfl) (J8 rfl QL)) go281 (k_extend 0 q cq ps _ (hq.Jj hm.to) (fun s hs=>(hps s hs).Jj hm.to) hl hlb) fun v w hR=>?_
 obtain ⟨rfl,hE⟩:=hR
 refine ⟨trivial,?_⟩
 replace hm:=hm.ext hE
 refine au 5 ?_
 exact ⟨rfl,hm.to⟩
theorem k_seal(p:Option Addr)(cap:Nat)(bs:List UInt8)(w0:World)(hx:Rd w0 p (bs.flatMap Jk))(hle:bs.length≤cap)(hsp:cap≠0→∀ ad,p=some ad→ad.spot=none)(hl:bs.length≤70368744177664):C Tryz.prog 286 [.slice p bs.length cap] w0 fun v w'=>∃ q c g b,v=.slice q (bs++Pl.leS (Pl.crc bs)).length c∧Acc 5 1 q (bs++Pl.leS (Pl.crc bs)).length c ((bs++Pl.leS (Pl.crc bs)).flatMap Jk) g b∧Mem w0 w' No [(g,b)]:=by
 refine C_o Tryz.func286 fun κ _ Je Jc hm=>?_
 refine au 8 ?_
 refine Jb (l:=[_]) rfl rfl sl88.h z22.h rfl rfl rfl rfl rfl rfl rfl hm trivial fun m1 w hg_m1 hm hh=>?_
 refine cA rfl rfl rfl (C.as (v:=.int .u32 ((Pl.crc bs).toNat:Int)) (k_of _ 1 [⟨p,cap,bs⟩] _ (Rd.JL (hm.get (k:=0) rfl)) (by simp only [Lf]; rintro _ rfl; exact hx.Jj hm.to) (by simp) (by simp only [Lf]; rintro _ rfl; simp only; omega)) (by simp only [Lk,LY,Lq])) hm fun w hm=>?_
 refine au 10 ?_
 refine Ja rfl rfl (y_slice3 rfl sl22.h rfl rfl (LP _) hle) ?_
 refine au 1 ?_
 refine Ja rfl rfl (JX rfl is120 it5 w_u8) ?_
 refine au 1 ?_
 refine Ja rfl rfl (V1 rfl rfl (by decide) (Yz 8 rfl (by decide))) ?_
 refine Ja rfl rfl (JX rfl is120 it5 w_u8) ?_
 refine au 1 ?_
 refine Ja rfl rfl (V1 rfl rfl (by decide) (Yz 16 rfl (by decide))) ?_
 refine Ja rfl rfl (JX rfl is120 it5 w_u8) ?_
 refine au 1 ?_
 refine Ja rfl rfl (V1 rfl rfl (by decide) (Yz 24 rfl (by decide))) ?_
 refine Ja rfl rfl (JX rfl is120 it5 w_u8) ?_
 refine Jb (l:=[_,_,_,_]) rfl rfl sl22.h z5.h rfl rfl rfl rfl rfl rfl rfl hm trivial fun m2 w hg_m2 hm hh=>?_
 refine a_appendF rfl rfl rfl rfl rfl rfl sl22.h sl22.h z5.h rfl (Rd.JL (hm.get (k:=0) rfl)) rfl (hx.Jj hm.to) (J0 bs) (by omega) hm (by omega) (by omega) fun cap_s g_s b_s w ha_s hm=>?_
 refine au 5 ?_
 exact ⟨_,cap_s,g_s,b_s,by rw [Lc]; rfl,by rw [Lc]; exact ha_s.to (by simp only [Lh]; rfl),(hm.pick [0] rfl)⟩
theorem k_open(p:Option Addr)(cap:Nat)(bs:List UInt8)(w0:World)(hx:Rd w0 p (bs.flatMap Jk))(hle:bs.length≤cap)(hsp:cap≠0→∀ ad,p=some ad→ad.spot=none)(hl:bs.length≤70368744177664):C Tryz.prog 223 [.slice p bs.length cap] w0 fun v w'=>∃ q c g b,v=.tuple ⟨[.slice q (if (decide (4≤bs.length)&&decide ((bs.drop (bs.length-4))=Pl.leS (Pl.crc (bs.take (bs.length-4)))))=true then (bs.take (bs.length-4)) else []).length c,.bool (decide (4≤bs.length)&&decide ((bs.drop (bs.length-4))=Pl.leS (Pl.crc (bs.take (bs.length-4)))))]⟩∧Acc 5 1 q (if (decide (4≤bs.length)&&decide ((bs.drop (bs.length-4))=Pl.leS (Pl.crc (bs.take (bs.length-4)))))=true then (bs.take (bs.length-4)) else []).length c ((if (decide (4≤bs.length)&&decide ((bs.drop (bs.length-4))=Pl.leS (Pl.crc (bs.take (bs.length-4)))))=true then (bs.take (bs.length-4)) else []).flatMap Jk) g b∧Mem w0 w' No [(g,b)]:=by
 refine C_o Tryz.func223 fun κ _ Je Jc hm=>?_
 refine au 21 ?_
 refine cd (fun hc0=>?_) fun hc0=>?_
 ·
  simp only [dT] at hc0
  have hop:(decide (4≤bs.length)&&decide ((bs.drop (bs.length-4))=Pl.leS (Pl.crc (bs.take (bs.length-4)))))=false:=by rw [LN (by omega)]; rfl
  refine au 9 ?_
  exact ⟨none,0,0,.gap,by rw [hop]; rfl,by rw [hop]; exact .nil _ _ _ _,(hm.drop (List.nil_sublist _)).JP⟩
 ·
  simp only [dF] at hc0
  have htl:(bs.take (bs.length-4)).length=bs.length-4:=by rw [Lg]; omega
  have hdl:(bs.drop (bs.length-4)).length=4:=by rw [Lm]; omega
  refine au 6 ?_
  refine Ja rfl rfl (y_v (JE (ln:=0) (hn:=(bs.length-4)) rfl sl22.h rfl ⟨_,LM (fun x=>some (Value.int .i64 x)) (by omega)⟩ (by omega) (by omega) (fun h=>hsp (by omega))) (show _=Value.slice (slp p cap 0 1) (bs.take (bs.length-4)).length cap by rw [htl,Nat.sub_zero,Nat.sub_zero])) ?_
  refine Jb (l:=[_]) rfl rfl sl88.h z22.h rfl rfl rfl rfl rfl rfl rfl hm trivial fun m1 w hg_m1 hm hh=>?_
  refine cA rfl rfl rfl (C.as (v:=.int .u32 ((Pl.crc (bs.take (bs.length-4))).toNat:Int)) (k_of _ 1 [⟨(slp p cap 0 1),cap,(bs.take (bs.length-4))⟩] _ (Rd.JL (hm.get (k:=0) rfl)) (by simp only [Lf]; rintro _ rfl; exact (hx.Jj hm.to).takeS hle) (by simp) (by simp only [Lf]; rintro _ rfl; simp only; omega)) (by simp only [Lk,LY,Lq])) hm fun w hm=>?_
  refine au 8 ?_
  refine Ja rfl rfl (y_v (JE (ln:=(bs.length-4)) (hn:=bs.length) rfl sl22.h ⟨_,LM (fun x=>some (Value.int .i64 x)) (by omega)⟩ rfl (by omega) hle (fun h=>hsp (by omega))) (show _=Value.slice (slp p cap (bs.length-4) 1) (bs.drop (bs.length-4)).length (cap-(bs.length-4)) by rw [hdl]; congr 1; omega)) ?_
  refine au 5 ?_
  refine Jg (ι:=Nat) rfl (ks:=[0,4,5,20,21]) (.cons rfl (.cons rfl (.cons rfl (.cons rfl (.cons rfl .nil))))) (fun x=>[(22,.int .i64 x)]) (fun x w=>Mem w0 w No []∧x≤4∧∀ j,j<x→(bs.drop (bs.length-4))[j]?=(Pl.leS (Pl.crc (bs.take (bs.length-4))))[j]?) (fun x=>4-x) 0 (⟨(hm.pick [] rfl),LL _,fun _ h=>absurd h (Nat.not_lt_zero _)⟩) ⟨rfl,trivial⟩ (fun x w hM=>?_)
  obtain ⟨hm,hk,hno⟩:=hM
  refine au 6 ?_
  refine cd (fun hc1=>?_) fun hc1=>?_
  ·
   simp only [dT] at hc1
   obtain ⟨c,hi⟩:∃ y_,(bs.drop (bs.length-4))[x]?=some y_:=⟨_,La (by omega)⟩
   obtain ⟨b2,o2,hp2⟩:=(hx.dropB hle).atI JG (by decide) hi
   refine au 7 ?_
   refine Ja rfl rfl (Qy rfl rfl sl22.h hp2 (by omega) (by omega)) ?_
   refine Ja rfl rfl (J3 rfl sc5.h (hp2▸(hx.Jj hm.to).dropB hle).nt JG hi rfl) ?_
   refine au 10 ?_
   refine Ja rfl rfl (V1 rfl rfl (by omega) (Yz (UInt32.ofNat (8*x)) (by rw [UInt32.toNat_ofNat']; omega) (by rw [UInt32.toNat_ofNat']; omega))) ?_
   refine Ja rfl rfl (JX rfl is120 it5 w_u8) ?_
   refine au 3 ?_
   refine cd (fun hc2=>?_) fun hc2=>?_
   ·
    simp only [dT] at hc2
    have hop:(decide (4≤bs.length)&&decide ((bs.drop (bs.length-4))=Pl.leS (Pl.crc (bs.take (bs.length-4)))))=false:=by simp only [bC,dF]; exact .inr fun e=>hc2 (by have h9:=LM (fun l=>l[x]?) e; simp only [hi,leS_get (show x<4 by omega)] at h9; rw [Option.some.inj h9])
    refine au 13 ?_
    exact ⟨none,0,0,.gap,by rw [hop]; rfl,by rw [hop]; exact .nil _ _ _ _,(hm.drop (List.nil_sublist _)).JP⟩
   ·
    simp only [dF,Decidable.not_not] at hc2
    have hcc:c=(Pl.crc (bs.take (bs.length-4)) >>> UInt32.ofNat (8*x)).toUInt8:=UInt8.toNat_inj.1 (by omega)
    refine au 7 ?_
    refine next (x+1) (by omega) ⟨hm,by omega,fun j hj=>?_⟩ ⟨nx x,rfl,rfl,rfl,rfl,rfl,trivial⟩
    rcases L7 j x with h | h
    · exact hno j h
    · obtain rfl:j=x:=by omega
      rw [hi,leS_get (by omega)]; exact LM some hcc
  ·
   simp only [dF] at hc1
   obtain rfl:x=4:=by omega
   have hop:(decide (4≤bs.length)&&decide ((bs.drop (bs.length-4))=Pl.leS (Pl.crc (bs.take (bs.length-4)))))=true:=by rw [LQ (by omega),LQ (Pl.eq_of (by rw [hdl]; rfl) (by rw [hdl]; exact hno))]; rfl
   refine au 9 ?_
   refine Ja rfl rfl (y_v (JE (ln:=0) (hn:=(bs.length-4)) rfl sl22.h rfl ⟨_,LM (fun x=>some (Value.int .i64 x)) (by omega)⟩ (by omega) (by omega) (fun h=>hsp (by omega))) (show _=Value.slice (slp p cap 0 1) (bs.take (bs.length-4)).length cap by rw [htl,Nat.sub_zero,Nat.sub_zero])) ?_
   replace hm:=hm.JP
   refine Jy rfl rfl rfl rfl rfl rfl sl22.h sl22.h z5.h rfl (Zl _) ((hx.Jj hm.to).takeS hle) (J0 _) (Acc.nil 5 1 none 0) hm 0 rfl (by omega) (by omega) fun p_s cap_s g_s b_s w ha_s hm=>?_
   refine au 6 ?_
   exact ⟨p_s,cap_s,g_s,b_s,by rw [hop,LI rfl,LV],by rw [hop,LI rfl]; simpa only [LV,L4] using ha_s,(hm.pick [0] rfl)⟩
end Go.Proofs.YtaehgpeenaomcaaGreat
