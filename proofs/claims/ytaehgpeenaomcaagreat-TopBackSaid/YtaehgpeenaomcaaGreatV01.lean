/- Part 2 of the proof of TopBack: CxF CxG CxH CxI CxJ CxK CxL PlA PlB PlC PlD. Conditions: the hypotheses of each theorem. -/
import Derived.Test.YtaehgpeenaomcaaGreatV00
import Derived.Laws.Append
import Derived.Laws.MakeOwn
import Derived.Laws.StructEq
import Derived.ChangeKeysEq
import Derived.Laws.IdiomStrings
set_option maxRecDepth 10000
set_option maxHeartbeats 4000000
set_option linter.unusedVariables false
set_option linter.unusedSimpArgs false
abbrev Tf:=List (Nat×Go.Cx.ag)
abbrev Tg:=Option Go.Addr
abbrev Th:=List UInt8
abbrev Ti:=List Go.Value
abbrev Tj:=List Int
abbrev Tk:=List (Nat×Go.Value)
abbrev Tl:=List (Int×Int)
namespace Go.Cx
open Go
def Rd(w:World):Tg→Ti→Prop
 | none,cs=>cs=[]
 | some a,cs=>(cs≠[]→a.spot=none)∧∀ j v,cs[j]?=some v→w.cell? ⟨a.block,a.off+j,none⟩=some v
theorem qp{w:World}{a:Addr}{v:Value}(h:w.cell? a=some v):a.block<w.heap.size:=by
 unfold World.cell? at h
 split at h
 · rename_i c _ _ hc; exact (Lb.1 hc).1
 · cases h
theorem oL{w w':World}{a:Addr}(h:w'.heap[a.block]?=w.heap[a.block]?):w'.cell? a=w.cell? a:=by simp [World.cell?,h]
theorem Rd.ext{w w':World}{p:Tg}{cs:Ti}{Y:Bs}(h:Rd w p cs)(hx:Ext Y w w')(hY:∀ a,p=some a→¬ Y a.block):Rd w' p cs:=by
 cases p with
 | none=>exact h
 | some a=>exact ⟨h.1,fun j v hj=>by
  have h1:=h.2 j v hj
  rw [oL (a:=⟨a.block,a.off+j,none⟩) (hx.same a.block (qp (a:=⟨a.block,a.off+j,none⟩) h1) (hY a rfl))]
  exact h1⟩
theorem Rd.Jj{w w':World}{p:Tg}{cs:Ti}(h:Rd w p cs)(hx:Ext No w w'):Rd w' p cs:=h.ext hx fun _ _ h=>h
theorem Rd.row{w:World}{g off:Nat}{e:TypeId}{l cs:Ti}(h:w.heap[g]?=some (ag.row e l).Jd)(hl:∀ (j:Nat) v,cs[j]?=some v→l[off+j]?=some v):Rd w (some ⟨g,off,none⟩) cs:=
 ⟨fun _=>rfl,fun j v hj=>by rw [VH h]; exact hl j v hj⟩
theorem Rd.JL{w:World}{g:Nat}{e:TypeId}{l:Ti}(h:w.heap[g]?=some (ag.row e l).Jd):Rd w (some ⟨g,0,none⟩) l:=Rd.row h fun j v hj=>by simpa using hj
theorem Rd.pre{w:World}{p:Tg}{cs ds:Ti}(h:Rd w p cs)(hp:∀ (j:Nat) v,ds[j]?=some v→cs[j]?=some v)(hn:p=none→ds=[]):Rd w p ds:=by
 cases p with
 | none=>exact hn rfl
 | some a=>exact ⟨fun hd=>h.1 fun e=>by
  subst e
  cases ds with
  | nil=>exact hd rfl
  | cons v r=>have:=hp 0 v rfl; simp at this,fun j v hj=>h.2 j v (hp j v hj)⟩
def bP(p:Tg)(cap l es:Nat):Option Addr:=if cap=l then p else p.map fun a=>⟨a.block,a.off+l*es,none⟩
theorem XW{p:Tg}{cap es:Nat}(hp:∀ a,p=some a→a.spot=none):bP p cap 0 es=p:=by
 unfold bP
 split
 · rfl
 · cases p with
   | none=>rfl
   | some a=>obtain ⟨b,o,s⟩:=a; have:s=none:=hp _ rfl; subst this; simp
theorem Rd.bP{w:World}{p:Tg}{cs ds:Ti}{cap l es:Nat}(h:Rd w p cs)(hd:∀ (j:Nat) v,ds[j]?=some v→cs[l*es+j]?=some v)(he:cap=l→ds=[]):Rd w (bP p cap l es) ds:=by
 unfold Cx.bP
 split
 · rename_i e
   rw [he e]
   cases p with
   | none=>rfl
   | some a=>exact ⟨fun h=>absurd rfl h,Tc⟩
 · cases p with
   | none=>
    have h:cs=[]:=h
    subst h
    cases ds with
    | nil=>rfl
    | cons v r=>have:=hd 0 v rfl; simp at this
   | some a=>exact ⟨fun _=>rfl,fun j v hj=>by
    have h1:=h.2 _ v (hd j v hj)
    rw [show a.off+l*es+j=a.off+(l*es+j) by omega]
    exact h1⟩
structure Acc(e es:Nat)(p:Tg)(n cap:Nat)(cells:Ti)(g:Nat)(b:ag):Prop where
 len:cells.length=n*es
 cases':(n=0∧cap=0∧b=.gap)∨(∃ l,p=some ⟨g,0,none⟩∧b=.row e l∧n≤cap∧l.length=cap*es∧l.take (n*es)=cells)
theorem Acc.nil(e es:Nat)(p:Tg)(g:Nat):Acc e es p 0 0 [] g .gap:=⟨Tc,.inl ⟨rfl,rfl,rfl⟩⟩
theorem Acc.row{e es g n:Nat}{l:Ti}(h:l.length=n*es):Acc e es (some ⟨g,0,none⟩) n n l g (.row e l):=⟨h,.inr ⟨l,rfl,rfl,LP _,h,by rw [← h,Lv]⟩⟩
theorem Acc.rd{w0 w:World}{X:Bs}{L:Tf}{e es n cap g:Nat}{b:ag}{p:Tg}{cells:Ti}(h:Acc e es p n cap cells g b)(hm:Mem w0 w X L)(j:Nat)(hj:aR L j=some (g,b)):Rd w p cells:=by
 rcases h.cases' with ⟨h1,_,_⟩ | ⟨l,hpg,hB,_,_,h4⟩
 · have hl:=h.len
   rw [h1,Nat.zero_mul] at hl
   have:cells=[]:=Ll.1 hl
   subst this
   cases p with
   | none=>rfl
   | some a=>exact ⟨fun h=>absurd rfl h,Tc⟩
 · subst hpg hB
   exact Rd.row (hm.get hj) fun j v hj=>by
    rw [← h4,LF] at hj
    split at hj
    · simpa using hj
    · cases hj
section
variable {w0 w w':World}{X:Bs}{L B:Tf}
theorem Qi(L B:Tf):ak (L++B)=ak L++ak B:=by simp [ak]
theorem vD{L L':Tf}(hp:L.Perm L'):(ak L).Perm (ak L'):=by unfold ak; exact (hp.filter _).map _
theorem zd{L L':Tf}(hs:L'.Sublist L):(ak L').Sublist (ak L):=by unfold ak; exact (hs.filter _).map _
theorem Mem.perm{L':Tf}(h:Mem w0 w X L)(hp:L.Perm L'):Mem w0 w X L':=
 ⟨h.os,h.tape,h.output,h.size,h.same,fun p hh=>h.own p (hp.mem_iff.2 hh),fun p hh=>h.fresh p (hp.mem_iff.2 hh),(vD hp).nodup_iff.1 h.nodup⟩
theorem Mem.drop{L':Tf}(h:Mem w0 w X L)(hs:L'.Sublist L):Mem w0 w X L':=
 ⟨h.os,h.tape,h.output,h.size,h.same,fun p hh=>h.own p (hs.subset hh),fun p hh=>h.fresh p (hs.subset hh),h.nodup.sublist (zd hs)⟩
theorem Mem.left(h:Mem w0 w X (L++B)):Mem w0 w X L:=h.drop (List.sublist_append_left _ _)
theorem Mem.right(h:Mem w0 w X (L++B)):Mem w0 w X B:=h.drop (List.sublist_append_right _ _)
theorem Mem.tail{b:Nat×ag}(h:Mem w0 w X (b::L)):Mem w0 w X L:=h.drop (List.sublist_cons_self _ _)
def Zq(L:Tf):List Nat→List (Nat×ag)
 | []=>[]
 | k::r=>match aR L k with | some q=>q::Zq L r | none=>Zq L r
theorem gu:∀ (L:Tf) (k:Nat) (q:Nat×ag),aR L k=some q→L.Perm (q::L.eraseIdx k)
 | [],_,_,h=>by simp [aR] at h
 | b::r,0,q,h=>by simp only [aR,Option.some.injEq] at h; subst h; simp
 | b::r,k+1,q,h=>by
  simp only [aR] at h
  simp only [List.eraseIdx_cons_succ]
  exact (List.Perm.cons b (gu r k q h)).trans (List.Perm.swap q b _)
theorem oM:∀ (L:Tf) (k n:Nat) (b x:ag),aR L k=some (n,b)→(Qr L k x).Perm ((n,x)::L.eraseIdx k)
 | [],_,_,_,_,h=>by simp [aR] at h
 | (m,c)::r,0,n,b,x,h=>by simp only [aR,Option.some.injEq,Prod.mk.injEq] at h; obtain ⟨rfl,rfl⟩:=h; simp [Qr]
 | (m,c)::r,k+1,n,b,x,h=>by
  simp only [aR] at h
  simp only [List.eraseIdx_cons_succ,Qr]
  exact (List.Perm.cons _ (oM r k n b x h)).trans (List.Perm.swap _ _ _)
theorem iK:∀ (L:Tf) (k:Nat) (q o:Nat×ag),aR L k=some o→(QQ L k q).Perm (q::L.eraseIdx k)
 | [],_,_,_,h=>by simp [aR] at h
 | b::r,0,q,o,h=>by simp [QQ]
 | b::r,k+1,q,o,h=>by
  simp only [aR] at h
  simp only [List.eraseIdx_cons_succ,QQ]
  exact (List.Perm.cons _ (iK r k q o h)).trans (List.Perm.swap _ _ _)
theorem Mem.lay{q o:Nat×ag}(h:Mem w0 w X (q::L))(k:Nat)(hk:aR L k=some o):Mem w0 w X (QQ L k q):=
 (h.drop (List.Sublist.cons_cons q (List.eraseIdx_sublist L k))).perm (iK L k q o hk).symm
theorem Mem.Gd{Y:Bs}(h:Mem w0 w X L)(hx:Ext Y w w')(hY:∀ k,Y k→X k∨w0.heap.size≤k)(hL:∀ p,p∈L→p.2.real=true→¬ Y p.1):Mem w0 w' X L:=
 ⟨hx.os.trans h.os,hx.tape.trans h.tape,hx.output.trans h.output,Ki h.size hx.size,
  fun k hk hX=>(hx.same k (Nat.lt_of_lt_of_le hk h.size) fun hy=>by rcases hY k hy with h1 | h1; exact hX h1; omega).trans (h.same k hk hX),
  fun p hp hr=>(hx.same p.1 (h.lt hp hr) (hL p hp hr)).trans (h.own p hp hr),h.fresh,h.nodup⟩
theorem Mem.call{A A':Tf}{Y:Bs}(h:Mem w0 w X (A++L))(hc:Mem w w' Y A')(hY:∀ k,Y k→k∈ak A):Mem w0 w' X (A'++L):=by
 have hx:Ext Y w w':=hc.to
 have dV:∀ k,Y k→X k∨w0.heap.size≤k:=fun k hk=>by
  obtain ⟨b,hp,hr⟩:=JD.1 (hY k hk)
  exact h.fresh (k,b) (Lw _ hp) hr
 have hL:∀ p,p∈L→p.2.real=true→¬ Y p.1:=fun p hp hr hy=>by
  have hn:=h.nodup
  rw [Qi] at hn
  exact (Kg.1 hn).2.2 p.1 (hY _ hy) p.1 (JD.2 ⟨p.2,hp,hr⟩) rfl
 have h1:=h.right.Gd hx dV hL
 refine ⟨h1.os,h1.tape,h1.output,h1.size,h1.same,fun p hp hr=>?_,fun p hp hr=>?_,?_⟩
 · rcases Ls.1 hp with hp | hp
   · exact hc.own p hp hr
   · exact h1.own p hp hr
 · rcases Ls.1 hp with hp | hp
   · rcases hc.fresh p hp hr with h2 | h2
     · exact dV _ h2
     · exact .inr (Ki h.size h2)
   · exact h1.fresh p hp hr
 · rw [Qi,Kg]
   refine ⟨hc.nodup,h1.nodup,?_⟩
   intro k hk j hj e
   subst e
   obtain ⟨b,hp,hr⟩:=JD.1 hk
   obtain ⟨c,hq,hs⟩:=JD.1 hj
   have hqlt:k<w.heap.size:=h.lt (p:=(k,c)) (Ly _ hq) hs
   rcases hc.fresh _ hp hr with h2 | h2
   · exact hL _ hq hs h2
   · simp only at h2; omega
end
theorem Mem.Jt{w0 w w':World}{X:Bs}{L N:Tf}(h:Mem w0 w X L)(hc:Mem w w' No N):Mem w0 w' X (N++L):=Mem.call (A:=[]) h hc fun _ h=>h.elim
theorem Mem.Qv{w0 w w':World}{X:Bs}{L N:Tf}{g:Nat}{b b':ag}(h:Mem w0 w X L)(j:Nat)(hj:aR L j=some (g,b))(hc:Mem w w' (fun k=>k=g) ((g,b')::N))(hb:b.real=true:=by rfl):Mem w0 w' X (N++Qr L j b'):=by
 have h1:Mem w0 w X ([(g,b)]++L.eraseIdx j):=h.perm (gu L j _ hj)
 have h2:=Mem.call h1 hc fun k hk=>JD.2 ⟨b,by rw [hk]; simp,hb⟩
 refine h2.perm ?_
 rw [List.cons_append]
 exact (List.perm_middle (l₁:=N) (l₂:=L.eraseIdx j) (a:=(g,b'))).symm.trans (List.Perm.append_left N (oM L j g b b' hj).symm)
theorem C.as{P:Program}{f:FuncId}{vs:Ti}{w:World}{u v:Value}(h:C P f vs w fun x w'=>x=u∧Ext No w w')(e:u=v):C P f vs w fun x w'=>x=v∧Ext No w w':=h.mono fun _ _ h=>⟨h.1.trans e,h.2⟩
theorem C.eqv{P:Program}{f:FuncId}{vs ZU:Ti}{w:World}{R:Value→World→Prop}(h:C P f vs w R)(e:vs=ZU):C P f ZU w R:=e▸h
section
variable {P:Program}{w:World}
theorem Q4{p:Tg}{cs:Ti}{es m len cap:Nat}(h:Rd w p cs)(hl:cs.length=m*es):(Builtin.firstCells es m (.slice p len cap)).run P w=.ok ⟨cs⟩ w:=by
 cases p with
 | none=>
  have h:cs=[]:=h
  subst h
  simp [Builtin.firstCells]
 | some a=>
  obtain ⟨b,o,s⟩:=a
  by_cases bO:cs=[]
  · subst bO
    simp only [Builtin.firstCells,← hl]
    simpa using run_loadCells_list (P:=P) w ⟨b,o,s⟩ [] Tc
  have hs:s=none:=h.1 bO
  subst hs
  simp only [Builtin.firstCells,← hl]
  refine run_loadCells_list (P:=P) w _ cs fun j v hj=>?_
  have:=h.2 j v hj
  by_cases fT:j=0
  · subst fT; simpa [Addr.add] using this
  · simpa [Addr.add,fT] using this
theorem Qq{T e es bs:Nat}(h:QH P T=some (e,es,bs)):P.underlying T=some (.slice e)∧∃ i,P.info? e=some i∧i.size=es∧i.bytes=bs:=by
 unfold QH at h
 cases hu:P.underlying T with
 | none=>simp [hu] at h
 | some d=>
  cases d <;> simp [hu] at h
  rename_i e'
  cases hi:P.info? e' with
  | none=>simp [hi] at h
  | some i=>
   simp [hi] at h
   obtain ⟨rfl,h2,h3⟩:=h
   exact ⟨rfl,i,hi,h2,h3⟩
def Qa(w:World)(ze cS:Nat)(e:TypeId):Nat:=ze+(w.tape w.drawn (.appendCap ze cS e))%(2 ^ 63-ze)
theorem jaf(a b:Ti)(z:Array Value):((⟨a⟩:Array Value)++⟨b⟩++z)=⟨a++b++z.toList⟩:=by apply Array.ext'; simp
theorem Yi{T e es bs:Nat}{ts:Array TypeId}{ty:TypeId}{p q:Tg}{n cap m c:Nat}{cells new:Ti}{z:Ti}(hT:QH P T=some (e,es,bs))(dU:ts[0]?=some T){T2:TypeId}{x2:TypeId×Nat×Nat}(dQ:ts[1]?=some T2)(oO:QH P T2=some x2)
 (hz:iF P e=some z) (hq:Rd w q new) (bR:new.length=m*es) (hp:Rd w p cells) (hc:cells.length=n*es) (hb:(n+m)*bs≤140737488355328) (rX:n+m<2 ^ 63) :
 (n+m≤cap→(Builtin.append_ ts ty #[.slice p n cap,.slice q m c]).run P w=(match p with | some a=>(storeCells (a.add (n*es)) new).run P w | none=>.ok () w).andThen fun _ w'=>.ok (.slice p (n+m) cap) w') ∧
 (cap<n+m→(Builtin.append_ ts ty #[.slice p n cap,.slice q m c]).run P w =
  .ok (.slice (some ⟨w.heap.size,0,none⟩) (n+m) (Qa w (n+m) cap e)) (w.drew.alloc (ag.row e (cells++new++(Builtin.zeroCells ⟨z⟩ (Qa w (n+m) cap e-(n+m))).toList)).Jd)):=by
 obtain ⟨hu,i,hi,hsz,BI⟩:=Qq hT
 obtain ⟨zv,ql,kV⟩:=XH (w:=w.drew) hz
 have zf:∀ u:World,(zeroValue e).run P u=.ok zv u:=fun u=>by
  obtain ⟨v',h1,h2⟩:=XH (w:=u) hz
  have:v'=zv:=by
   unfold iF at hz
   have e1 : (zeroValue e).run P u = (match i.zero with | some v => .ok v u | none => .halt (.unsupported (.resourceLimit "a value of more than 2^22 cells")) u) := by
    simp [zeroValue,typeInfo,hi]; cases i.zero <;> rfl
   have e2 : (zeroValue e).run P w.drew = (match i.zero with | some v => .ok v w.drew | none => .halt (.unsupported (.resourceLimit "a value of more than 2^22 cells")) w.drew) := by
    simp [zeroValue,typeInfo,hi]; cases i.zero <;> rfl
   cases fO:i.zero with
   | none=>rw [fO] at e1; rw [e1] at h1; cases h1
   | some v=>rw [fO] at e1 e2; rw [e1] at h1; rw [e2] at ql; cases h1; cases ql; rfl
  rw [h1,this]
 have gw:∀ u:World,(typeInfo e).run P u=.ok i u:=fun u=>by simp [typeInfo,hi]
 obtain ⟨e2,IT,bs2⟩:=x2
 obtain ⟨RF,_⟩:=Qq oO
 have hf:=Q4 (P:=P) (len:=m) (cap:=c) hq bR
 have hpf:=Q4 (P:=P) (w:=w.drew) (len:=n) (cap:=cap) (hp.Jj (Ext.drew w)) hc
 have PF:=Q4 (P:=P) (w:=w.drew) (len:=m) (cap:=c) (hq.Jj (Ext.drew w)) bR
 have er:∀ u:World,(sizeOf e).run P u=.ok es u:=fun u=>by simp [sizeOf,gw,hsz]
 refine ⟨fun hle=>?_,fun aX=>?_⟩
 · unfold Builtin.append_
   simp only [dU,dQ,List.getElem?_toArray,L2,LW,Sem.run_bind,JC hu,JC RF,Result.andThen_ok,er,Sem.run_pure,L0,if_false,Builtin.lenOf,hle,if_true,Bool.not_false,hf]
   cases p with
   | none=>simp
   | some a=>simp
 · have hn:¬ n+m≤cap:=by omega
   have hg:¬ (Builtin.nextslicecap (n+m) cap*i.bytes>2 ^ 48):=by
    have:=growslice_fits (bytes:=i.bytes) aX (by rw [BI]; exact hb)
    simpa using this
   have fy:¬ (((n+m:Nat):Int)>IntKind.i64.max∧(False∨i.bytes=0)):=by
    intro ⟨h1,_⟩
    have:IntKind.i64.max=9223372036854775807:=rfl
    rw [this] at h1
    omega
   unfold Builtin.append_
   simp only [dU,dQ,List.getElem?_toArray,L2,LW,Sem.run_bind,JC hu,JC RF,Result.andThen_ok,er,Sem.run_pure,L0,if_false,Builtin.lenOf,hn,Bool.not_false,if_true,gw,Sem.run_ite,fy,hg]
   have vn:(choose (.appendCap (n+m) cap e)).run P w=.ok (Qa w (n+m) cap e) w.drew:=by
    simp [Question.forced,Qa,Question.cut]
   have F8:∀ (cs:Array Value) (u:World),(newRow e cs).run P u=.ok ⟨u.heap.size,0,none⟩ (u.alloc (.cells cs e)):=fun cs u=>by simp [newRow]
   simp only [vn,Result.andThen_ok,run_askRoom,hpf,PF,zf,kV,F8,jaf,ag.Jd]
   rfl
theorem VV(w:World)(ze cS:Nat)(e:TypeId):ze≤Qa w ze cS e:=Nat.le_add_right _ _
theorem Va(w:World):Ext No w w.drew:=⟨rfl,rfl,rfl,LP _,fun _ _ _=>rfl⟩
theorem Acc.append{T e es bs:Nat}{ts:Array TypeId}{ty:TypeId}{p q:Tg}{n cap m c g:Nat}{b:ag}{cells new z:Ti}{w0:World}{X:Bs}{L:Tf}(hT:QH P T=some (e,es,bs))(dU:ts[0]?=some T){T2:TypeId}{x2:TypeId×Nat×Nat}(dQ:ts[1]?=some T2)(oO:QH P T2=some x2)
 (hz:iF P e=some z) (cV:z.length=es) (h1:new.all (·.oneCell')=true) (hq:Rd w q new) (bR:new.length=m*es) (ha:Acc e es p n cap cells g b) (hm:Mem w0 w X L) (j:Nat) (hj:aR L j=some (g,b)) (hb:(n+m)*bs≤140737488355328) (rX:n+m<2 ^ 63) :
 ∃ p' aV g' b' w',(Builtin.append_ ts ty #[.slice p n cap,.slice q m c]).run P w=.ok (.slice p' (n+m) aV) w'∧Acc e es p' (n+m) aV (cells++new) g' b'∧Mem w0 w' X (QQ L j (g',b')) ∧
  Ext (fun k=>b.real=true∧k=g) w w'∧(g'=g∧b'.real=b.real∨w.heap.size≤g'):=by
 have kf:=ha.rd hm j hj
 obtain ⟨b7,gy⟩:=Yi (w:=w) (cap:=cap) (c:=c) (ty:=ty) hT dU dQ oO hz hq bR kf ha.len hb rX
 have hlen:(cells++new).length=(n+m)*es:=by rw [Lc,ha.len,bR,Kh]
 have lq:∀ (L:Tf) (k:Nat) (q:Nat×ag),aR L k=some q→QQ L k q=L:=fun L=>by
  induction L with
  | nil=>intro k q h; simp [aR] at h
  | cons x r ih=>
   intro k q h
   cases k with
   | zero=>simp only [aR,Option.some.injEq] at h; subst h; rfl
   | succ k=>simp only [QQ,ih k q h]
 have BJ:∀ (L:Tf) (k n:Nat) (b x:ag),aR L k=some (n,b)→Qr L k x=QQ L k (n,x):=fun L=>by
  induction L with
  | nil=>intro k n b x h; rfl
  | cons y r ih=>
   intro k n b x h
   obtain ⟨m,d⟩:=y
   cases k with
   | zero=>simp only [aR,Option.some.injEq,Prod.mk.injEq] at h; obtain ⟨rfl,_⟩:=h; rfl
   | succ k=>simp only [aR] at h; simp only [Qr,QQ,ih k n b x h]
 by_cases hle:n+m≤cap
 · have aN:=b7 hle
   rcases ha.cases' with ⟨h2,h3,h4⟩ | ⟨l,rfl,rfl,vo,hl,oP⟩
   · have ar:m=0:=by omega
     subst h2 h3 ar
     have BK:new=[]:=Ll.1 (by rw [bR]; simp)
     have sB:cells=[]:=Ll.1 (by rw [ha.len]; simp)
     subst BK sB h4
     refine ⟨p,0,g,.gap,w,?_,⟨Tc,.inl ⟨rfl,rfl,rfl⟩⟩,by rw [lq L j _ hj]; exact hm,Ext.refl _ _,.inl ⟨rfl,rfl⟩⟩
     rw [aN]
     cases p <;> simp [storeCells]
   · have hg:=hm.get hj
     have cF:=run_storeCells_at P g (n*es) e new 0 ⟨l⟩ w hg (by simp only [Nat.add_zero,bR,List.size_toArray]; rw [hl,← Kh]; exact Lr _ hle) (by simpa using h1)
     simp only [Nat.add_zero] at cF
     have lu:(⟨g,0,none⟩:Addr).add (n*es)=⟨g,n*es,none⟩:=by
      unfold Addr.add; split
      · rename_i h0; rw [h0]
      · simp
     refine ⟨some ⟨g,0,none⟩,cap,g,.row e (l.take (n*es)++new++l.drop (n*es+new.length)),_,by rw [aN]; simp only [lu,cF]; rfl,⟨hlen,.inr ⟨_,rfl,rfl,hle,?_,?_⟩⟩,?_,?_,.inl ⟨rfl,rfl⟩⟩
     · have:n*es+new.length≤l.length:=by rw [bR,hl,← Kh]; exact Lr _ hle
       simp only [Lc,Lg,Lm]
       omega
     · rw [oP,← hlen]
       exact Kj
     · have:=Qk (l':=l.take (n*es)++new++l.drop (n*es+new.length)) hm hj
       rw [BJ L j g _ _ hj] at this
       exact this
     · refine ⟨rfl,rfl,rfl,by simp [World.setRow],fun k hk bO=>?_⟩
       simp only [World.setRow,Array.getElem?_modify]
       rw [LH]
       intro e; subst e
       exact bO ⟨rfl,rfl⟩
 · have aX:cap<n+m:=by omega
   have aN:=gy aX
   refine ⟨_,_,w.heap.size,.row e (cells++new++(Builtin.zeroCells ⟨z⟩ (Qa w (n+m) cap e-(n+m))).toList),_,aN,⟨hlen,.inr ⟨_,rfl,rfl,VV _ _ _ _,?_,?_⟩⟩,?_,?_,.inr (LP _)⟩
   · have:(Builtin.zeroCells ⟨z⟩ (Qa w (n+m) cap e-(n+m))).toList.length=(Qa w (n+m) cap e-(n+m))*es:=by
      rw [← cV]; simp [Builtin.zeroCells]
     rw [Lc,hlen,this,← Kh]
     congr 1
     have:=VV w (n+m) cap e
     omega
   · rw [← hlen]; exact Kj
   · exact ((hm.ext (Va w)).alloc (ag.row e (cells++new++(Builtin.zeroCells ⟨z⟩ (Qa w (n+m) cap e-(n+m))).toList))).lay j hj
   · exact ((Va w).trans (Qx _ _)).mono fun _ h=>h.elim
end
section
variable {P:Program}{r:Option Nat}{k:Ks}{ops:Array Oper}{md:Md}{n:Nat}{D:List Deferred}{S:Tk}{w:World}{i:Nat}{t:Tr}
variable {ty:TypeId}{pos:String}{af:Array Edge}{g:Option (Nat×Bool)}{dst:Option Tmp}{d:Nat}{w0:World}{X:Bs}{L:Tf}
theorem Jy{T e es bs:Nat}{s x:Operand}{ts:Array TypeId}{p q:Tg}{na cap m c gg:Nat}{b:ag}{cells new z:Ti}{T2:TypeId}{x2:TypeId×Nat×Nat}
 (ho:eL ops S i=some (⟨dst,.call ⟨.builtin .append,#[s,x],ts⟩,ty,pos,af,g⟩,d)) (hd:Nat.blt d n=true) (hs:ev S s=some (.slice p na cap)) (hx:ev S x=some (.slice q m c)) (dU:ts[0]?=some T) (dQ:ts[1]?=some T2)
 (hT:QH P T=some (e,es,bs)) (oO:QH P T2=some x2) (hz:iF P e=some z) (cV:z.length=es) (h1:new.all (·.oneCell')=true) (hq:Rd w q new) (bR:new.length=m*es) (ha:Acc e es p na cap cells gg b)
 (hm:Mem w0 w X L) (j:Nat) (hj:aR L j=some (gg,b)) (hb:(na+m)*bs≤140737488355328) (rX:na+m<2 ^ 63)
 (h:∀ p' aV g' b' w',Acc e es p' (na+m) aV (cells++new) g' b'→Mem w0 w' X (QQ L j (g',b'))→HR P r k ops none n D ((d,.slice p' (na+m) aV)::S) t w'):HR P r k ops none n D S (.act i t) w:=by
 obtain ⟨p',aV,g',b',w',aN,vE,vF,_⟩:=ha.append (c:=c) (ty:=ty) hT dU dQ oO hz cV h1 hq bR hm j hj hb rX
 refine Vv ho hd rfl (fun a hf=>?_) trivial (h p' aV g' b' w' vE vF)
 simp only [execOp,resolve,List.map_toArray,Ka,List.map_nil,hf.eval hs,hf.eval hx,Sem.run_bind,Sem.run_pure,Result.andThen_ok,invoke,builtin,aN]
theorem Xm{b0:World}{Y:Bs}{T e es bs:Nat}{s x:Operand}{ts:Array TypeId}{p q:Tg}{na cap m c gg:Nat}{b:ag}{cells new z:Ti}{T2:TypeId}{x2:TypeId×Nat×Nat}
 (ho:eL ops S i=some (⟨dst,.call ⟨.builtin .append,#[s,x],ts⟩,ty,pos,af,g⟩,d)) (hd:Nat.blt d n=true) (hs:ev S s=some (.slice p na cap)) (hx:ev S x=some (.slice q m c)) (dU:ts[0]?=some T) (dQ:ts[1]?=some T2)
 (hT:QH P T=some (e,es,bs)) (oO:QH P T2=some x2) (hz:iF P e=some z) (cV:z.length=es) (h1:new.all (·.oneCell')=true) (hq:Rd w q new) (bR:new.length=m*es) (ha:Acc e es p na cap cells gg b)
 (hm:Mem w0 w X L) (j:Nat) (hj:aR L j=some (gg,b)) (hb:(na+m)*bs≤140737488355328) (rX:na+m<2 ^ 63) (hh:aQ (some (b0,Y)) w) (hY:b.real=true→b0.heap.size≤gg∨Y gg)
 (h:∀ p' aV g' b' w',(b.real=true→b0.heap.size≤gg)∨True→Acc e es p' (na+m) aV (cells++new) g' b'→Mem w0 w' X (QQ L j (g',b'))→aQ (some (b0,Y)) w'→(b'.real=true→b0.heap.size≤g'∨Y g')→HR P r k ops (some (b0,Y)) n D ((d,.slice p' (na+m) aV)::S) t w'):HR P r k ops (some (b0,Y)) n D S (.act i t) w:=by
 obtain ⟨p',aV,g',b',w',aN,vE,vF,BL,hg'⟩:=ha.append (c:=c) (ty:=ty) hT dU dQ oO hz cV h1 hq bR hm j hj hb rX
 have qm:Ext Y b0 w:=hh
 have fM:aQ (some (b0,Y)) w':=by
  show Ext Y b0 w'
  refine ⟨BL.os.trans qm.os,BL.tape.trans qm.tape,BL.output.trans qm.output,Ki qm.size BL.size,fun j hj hn=>?_⟩
  rw [BL.same j (Nat.lt_of_lt_of_le hj qm.size) fun vG=>?_,qm.same j hj hn]
  rcases hY vG.1 with h2 | h2
  · rw [vG.2] at hj; omega
  · exact hn (vG.2▸h2)
 refine Vv ho hd rfl (fun a hf=>?_) fM (h p' aV g' b' w' (.inr trivial) vE vF fM fun hr=>?_)
 · simp only [execOp,resolve,List.map_toArray,Ka,List.map_nil,hf.eval hs,hf.eval hx,Sem.run_bind,Sem.run_pure,Result.andThen_ok,invoke,builtin,aN]
 · rcases hg' with ⟨rfl,ZW⟩ | iA
   · exact hY (by rw [← ZW]; exact hr)
   · exact .inl (Ki qm.size iA)
theorem Qy{T e es bs:Nat}{x y:Operand}{p:Tg}{l c b o:Nat}{k':IntKind}{j:Int}(hx:ev S x=some (.slice p l c))(hy:ev S y=some (.int k' j))(hT:QH P T=some (e,es,bs))(hp:p=some ⟨b,o,none⟩)(h0:0≤j)(h1:j<l) :
 ∀ a,Fr a n D S→Yl P md w a ⟨dst,.indexAddr T x y,ty,pos,af,g⟩ (.pointer (some ⟨b,o+j.toNat*es,none⟩)):=fun a hf u _=>by
 obtain ⟨hu,i,hi,hs,_⟩:=Qq hT
 subst hp
 have hsz:(sizeOf e).run P u=.ok es u:=by simp [sizeOf,typeInfo,hi,hs]
 have lu:(⟨b,o,none⟩:Addr).add (j.toNat*es)=⟨b,o+j.toNat*es,none⟩:=by
  unfold Addr.add; split
  · rename_i h; rw [h]; simp
  · simp
 simp [execOp,hf.eval hx,hf.eval hy,Instr.indexAt,asIntOf,JC hu,h0,h1,hsz,lu]
theorem JE{T e es bs:Nat}{x:Operand}{lo hi:Option Operand}{p:Tg}{l c ln hn:Nat}(hx:ev S x=some (.slice p l c))(hT:QH P T=some (e,es,bs))
 (lv:(match lo with | none=>ln=0 | some y=>∃ k',ev S y=some (.int k' ln)) ) (lx:(match hi with | none=>hn=l | some y=>∃ k',ev S y=some (.int k' hn))) (h1:ln≤hn) (h2:hn≤c) (cU:c≠ln→∀ ad,p=some ad→ad.spot=none) :
 ∀ a,Fr a n D S→Yl P md w a ⟨dst,.slice T x lo hi none,ty,pos,af,g⟩ (.slice (bP p c ln es) (hn-ln) (c-ln)):=fun a hf u _=>by
 obtain ⟨hu,i,PG,hs,_⟩:=Qq hT
 have hsz:(sizeOf e).run P u=.ok es u:=by simp [sizeOf,typeInfo,PG,hs]
 have hb:(Instr.sliceBounds true l c (lo.map a.eval) (hi.map a.eval) none).run P u=.ok (ln,hn,c) u:=by
  have e1:∀ (k':IntKind) (m y:Nat) (cd:BoundsCode),m≤y→(Instr.sliceBound (.int k' m) y cd).run P u=.ok m u:=fun k' m y cd h=>by
   have h':(m:Int)≤y:=by omega
   simp [Instr.sliceBound,asIntOf,h']
  unfold Instr.sliceBounds
  cases lo with
  | none=>
   subst lv
   cases hi with
   | none=>subst lx; simp
   | some y=>obtain ⟨k',hy⟩:=lx; simp [hf.eval hy,e1 k' hn c _ h2]
  | some z=>
   obtain ⟨k2,hz⟩:=lv
   cases hi with
   | none=>subst lx; simp [hf.eval hz,e1 k2 ln _ _ h1]
   | some y=>obtain ⟨k',hy⟩:=lx; simp [hf.eval hy,hf.eval hz,e1 k' hn c _ h2,e1 k2 ln _ _ h1]
 have hp:(if c=ln then p else p.map (·.add (ln*es)))=bP p c ln es:=by
  unfold bP
  split
  · rfl
  · rename_i bO
    cases p with
    | none=>rfl
    | some ad=>
     obtain ⟨b,o,s⟩:=ad
     have IU:s=none:=cU bO _ rfl
     subst IU
     simp only [Option.map_some,Addr.add]
     split
     · rename_i h; rw [h]; simp
     · simp
 simp only [execOp,hf.eval hx,Option.map_none,Instr.sliceAt,Sem.run_bind,JC hu,Result.andThen_ok,Instr.slice,hb,hsz,Sem.run_pure,hp]
end
end Go.Cx
namespace Go.Cx
open Go
def cJ(a:Act)(fn:FuncId)(r0:Nat)(ps:Array Tmp)(dp cZ:Code)(st:LoopState)(pd:Option Code):Loop:=
 { state:=st,pending:=pd,fn:=fn,tmps:=a.tmps,params:=ps,assign:=dp,body:=cZ,defers:=r0 }
abbrev fD(a:Act)(fn:FuncId)(r0:Nat)(ps:Array Tmp)(dp cZ:Code)(st:LoopState)(pd:Option Code):ag:=.obj (.loop (cJ a fn r0 ps dp cZ st pd))
abbrev eh(x:Option (List Deferred)):ag:=.obj (.deferred x)
def Yw(P:Program)(l:Nat)(vs:Ti)(w:World)(R:Value→World→Prop):Prop:=
 ∃ rc,w.heap[l]?=some (.loop rc)∧vs.length=rc.params.size ∧
  RoundIn (Fw none) 0 P l rc.fn ((rc.params.zip ⟨vs⟩).foldl (fun tmps (t,a)=>tmps.setIfInBounds t a) rc.tmps) rc.assign rc.body w (Rt R)
section
variable {P:Program}{r:Option Nat}{k:Ks}{ops:Array Oper}{md:Md}{n:Nat}{D:List Deferred}{S:Tk}{w:World}{i:Nat}{t:Tr}
variable {ty:TypeId}{pos:String}{af:Array Edge}{g:Option (Nat×Bool)}{dst:Option Tmp}{d:Nat}{w0:World}{X:Bs}{L:Tf}
theorem J6{j:Nat}{o:Obj}(h:w.heap[j]?=some o)(hc:(match o with | .cells ..=>false | _=>true)=true):(getObj j).run P w=.ok o w:=by
 simp only [getObj,Sem.run,h]
 cases o <;> simp at hc ⊢ <;> rfl
theorem QE{j:Nat}{o o':Obj}(h:w.heap[j]?=some o)(hc:(match o with | .cells ..=>false | _=>true)=true):(setObj j o').run P w=.ok () { w with heap:=w.heap.setIfInBounds j o' }:=by
 simp only [setObj,Sem.run,h]
 cases o <;> simp at hc ⊢ <;> rfl
theorem Mem.setObj{j m:Nat}{o o':Obj}(h:Mem w0 w X L)(hk:aR L j=some (m,.obj o)):Mem w0 { w with heap:=w.heap.setIfInBounds m o' } X (Qr L j (.obj o')):=by
 have cR:=h.get hk
 have aX:m<w.heap.size:=(Lb.1 cR).1
 refine h.set hk _ rfl rfl rfl Tc ?_ ?_
 · simp [ag.Jd,aX]
 · intro q hq
   simp [Array.getElem?_setIfInBounds_ne (Ne.symm hq)]
theorem XM{c:Operand}{as:Array Operand}{ts:Array TypeId}{l:Nat}{vs:Ti}{R:Value→World→Prop}(ho:eL ops S i=some (⟨dst,.call ⟨.value c,as,ts⟩,ty,pos,af,g⟩,d))(hd:Nat.blt d n=true)
 (Mo:ev S c=some (.func (.yield l) #[] #[])) (ha:fL S as.toList=some vs) (hc:Yw P l vs w R) (h:∀ v w',R v w'→aQ md w'∧HR P r k ops md n D ((d,v)::S) t w'):HR P r k ops md n D S (.act i t) w:=fun a hf=>by
 obtain ⟨h1,h2,h3⟩:=V4 ho hf
 obtain ⟨rc,hl,hn,hR⟩:=hc
 refine ⟨_,h1,fun _=>?_,fun hw=>by rw [h2] at hw; cases hw⟩
 have RG:as.map a.eval=⟨vs⟩:=by obtain ⟨l⟩:=as; simpa using hf.kN ha
 have aN:(execOp a.eval ⟨dst,.call ⟨.value c,as,ts⟩,ty,pos,af,g⟩).run P w=.ok (.round l rc.fn ((rc.params.zip ⟨vs⟩).foldl (fun tmps (t,a)=>tmps.setIfInBounds t a) rc.tmps) rc.assign rc.body) w:=by
  have hg:=J6 (P:=P) hl rfl
  simp [execOp,resolve,hf.eval Mo,RG,Deferred.ofValue,invoke,Instr.yield,Instr.getLoop,hg,hn]
 unfold rV
 rw [JY rfl,aN]
 refine ⟨fun h=>by simp [Fw] at h,RoundIn.mono hR fun e w' he=>?_⟩
 obtain ⟨v,rfl,hRv⟩:=he
 refine ⟨(h v w' hRv).1,?_⟩
 rw [h3]
 exact (h v w' hRv).2 _ (hf.put v hd)
def BM:List Nat→Ti→Tk→List (Nat×Value)
 | t::ts,v::vs,S=>BM ts vs ((t,v)::S)
 | _,_,S=>S
def RH(n:Nat):List Nat→Bool | []=>true | t::ts=>Nat.blt t n&&RH n ts
theorem Fr.params:∀ (ps:List Nat) (vs:Ti) (S:Tk) (tm:Array Value) (D:List Deferred),RH n ps=true→Fr { tmps:=tm,defers:=D } n D S →
 Fr { tmps:=(ps.zip vs).foldl (fun tmps (t,a)=>tmps.setIfInBounds t a) tm,defers:=D } n D (BM ps vs S)
 | [],_,_,_,_,_,h=>by simpa [BM] using h
 | t::ts,[],_,_,_,_,h=>by simpa [BM] using h
 | t::ts,v::vs,S,tm,D,aq,h=>by
  simp only [RH,LJ] at aq
  have:=h.put v aq.1
  exact Fr.params ts vs _ _ D aq.2 this
def kB(P:Program)(l:Nat)(R:Value→World→Prop):Ks:=
 { norm:=fun _ w=>∃ v w',(Instr.endRound l none).run P w=.ok v w'∧R v w'
   ret:=fun _ w=>∃ v w',(Instr.endRound l (some .ret)).run P w=.ok v w'∧R v w'
   ex:=fun id _ w=>∃ v w',(Instr.endRound l (some (.exit id))).run P w=.ok v w'∧R v w' }
instance {P:Program}{l:Nat}{R:Value→World→Prop}:cH (kB P l R):=⟨fun _ _ _ _ _ h=>h⟩
def kA(P:Program)(l:Nat)(cZ:Code)(R:Value→World→Prop):Ks:=
 { norm:=fun a w=>∃ w',(Instr.beginRound l).run P w=.ok () w'∧W P (some l) cZ (kB P l R) a w'
   ret:=fun _ _=>False
   ex:=fun _ _ _=>False }
instance {P:Program}{l:Nat}{cZ:Code}{R:Value→World→Prop}:cH (kA P l cZ R):=⟨fun _ _ _ _ _ h=>h⟩
theorem Yw.of{l:Nat}{a:Act}{fn:FuncId}{r0:Nat}{ps:Array Tmp}{dp cZ:Code}{vs:Ti}{R:Value→World→Prop}(hf:Fr a n D S)(hl:w.heap[l]?=some (.loop (cJ a fn r0 ps dp cZ .ready none)))(hn:vs.length=ps.size)(aq:RH n ps.toList=true)
 (h:HW P (some l) dp (kA P l cZ R) n [] (BM ps.toList vs S) w):Yw P l vs w R:=by
 refine ⟨_,hl,hn,roundIn_of_wpIn trivial ?_⟩
 have Mr:Fr { tmps:=a.tmps,defers:=[] } n [] S:=⟨hf.size,rfl,hf.get⟩
 have dV:=Fr.params ps.toList vs S a.tmps [] aq Mr
 have hz:(ps.zip ⟨vs⟩).foldl (fun tmps (t,a)=>tmps.setIfInBounds t a) a.tmps=(ps.toList.zip vs).foldl (fun tmps (t,a)=>tmps.setIfInBounds t a) a.tmps:=by
  rw [← Array.foldl_toList]; simp
 have hW:=h _ dV
 have zc:dp.wpIn (Fw (some l)) 0 P (kA P l cZ R).q _ w:=hW
 have hz':(cJ a fn r0 ps dp cZ .ready none).tmps=a.tmps:=rfl
 show dp.wpIn (Fw (some l)) 0 P _ { tmps:=(ps.zip ⟨vs⟩).foldl _ a.tmps,defers:=[] } w
 rw [hz]
 refine wpIn_mono zc fun e a' w' hq=>?_
 cases e with
 | normal=>
  obtain ⟨w2,h1,h2⟩:=hq
  refine ⟨w2,h1,wpIn_mono h2 fun e a'' w'' PH=>?_⟩
  cases e with
  | normal=>obtain ⟨v,w3,h3,h4⟩:=PH; exact ⟨v,w3,h3,v,rfl,h4⟩
  | ret=>obtain ⟨v,w3,h3,h4⟩:=PH; exact ⟨v,w3,h3,v,rfl,h4⟩
  | exit id=>obtain ⟨v,w3,h3,h4⟩:=PH; exact ⟨v,w3,h3,v,rfl,h4⟩
  | goto t=>exact PH.elim
  | panic c=>exact PH.elim
  | outgrown=>exact PH.elim
 | ret=>exact hq.elim
 | exit id=>exact hq.elim
 | goto t=>exact hq.elim
 | panic c=>exact hq.elim
 | outgrown=>exact hq.elim
section
variable {l fn r0:Nat}{a:Act}{ps:Array Tmp}{dp cZ:Code}{R:Value→World→Prop}
theorem Xf(hm:Mem w0 w X L)(j:Nat)(hj:aR L j=some (l,fD a fn r0 ps dp cZ .ready none))(h:∀ w',Mem w0 w' X (Qr L j (fD a fn r0 ps dp cZ .busy none))→HW P (some l) cZ (kB P l R) n [] S w') :
 GN (kA P l cZ R) n [] S w:=fun b hf=>by
 have hl:w.heap[l]?=some (.loop (cJ a fn r0 ps dp cZ .ready none)):=hm.get hj
 have h1:=J6 (P:=P) hl rfl
 have h2:=QE (P:=P) (o':=.loop (cJ a fn r0 ps dp cZ .busy none)) hl rfl
 refine ⟨_,?_,h _ (hm.setObj (j:=j) (o':=.loop (cJ a fn r0 ps dp cZ .busy none)) hj) b hf⟩
 have e:({ cJ a fn r0 ps dp cZ .ready none with state:=.busy }:Loop)=cJ a fn r0 ps dp cZ .busy none:=rfl
 simp only [Instr.beginRound,Instr.getLoop,Sem.run_bind,h1,Result.andThen_ok,Sem.run_pure,e,h2]
 rfl
theorem gz(hm:Mem w0 w X L)(j:Nat)(hj:aR L j=some (l,fD a fn r0 ps dp cZ .busy none))(h:∀ w',Mem w0 w' X (Qr L j (fD a fn r0 ps dp cZ .ready none))→R (.bool true) w'):GN (kB P l R) n [] S w:=fun b _=>by
 have hl:w.heap[l]?=some (.loop (cJ a fn r0 ps dp cZ .busy none)):=hm.get hj
 have h1:=J6 (P:=P) hl rfl
 have h2:=QE (P:=P) (o':=.loop (cJ a fn r0 ps dp cZ .ready none)) hl rfl
 refine ⟨.bool true,_,?_,h _ (hm.setObj (j:=j) (o':=.loop (cJ a fn r0 ps dp cZ .ready none)) hj)⟩
 have e:({ cJ a fn r0 ps dp cZ .busy none with state:=.ready,pending:=none }:Loop)=cJ a fn r0 ps dp cZ .ready none:=rfl
 simp only [Instr.endRound,Instr.getLoop,Sem.run_bind,h1,Result.andThen_ok,Sem.run_pure,Option.isNone_none,if_true,e,h2]
theorem Ms(c:Code)(hm:Mem w0 w X L)(j:Nat)(hj:aR L j=some (l,fD a fn r0 ps dp cZ .busy none))(h:∀ w',Mem w0 w' X (Qr L j (fD a fn r0 ps dp cZ .done (some c)))→R (.bool false) w'):∃ v w',(Instr.endRound l (some c)).run P w=.ok v w'∧R v w':=by
 have hl:w.heap[l]?=some (.loop (cJ a fn r0 ps dp cZ .busy none)):=hm.get hj
 have h1:=J6 (P:=P) hl rfl
 have h2:=QE (P:=P) (o':=.loop (cJ a fn r0 ps dp cZ .done (some c))) hl rfl
 refine ⟨.bool false,_,?_,h _ (hm.setObj (j:=j) (o':=.loop (cJ a fn r0 ps dp cZ .done (some c))) hj)⟩
 have e:({ cJ a fn r0 ps dp cZ .busy none with state:=.done,pending:=some c }:Loop)=cJ a fn r0 ps dp cZ .done (some c):=rfl
 simp only [Instr.endRound,Instr.getLoop,Sem.run_bind,h1,Result.andThen_ok,Sem.run_pure,Option.isNone_some,L0,if_false,e,h2]
theorem BN(hm:Mem w0 w X L)(j:Nat)(hj:aR L j=some (l,fD a fn r0 ps dp cZ .busy none))(h:∀ w',Mem w0 w' X (Qr L j (fD a fn r0 ps dp cZ .done (some .ret)))→R (.bool false) w'):GR (kB P l R) n [] S w:=fun _ _=>Ms .ret hm j hj h
end
theorem VJ{c:Code}{f:Operand}{ps:Array Tmp}{fi:FuncId}{l1 l2:Ti}(hc:Rk c=some (f,ps))(hv:ev S f=some (.func (.func fi) ⟨l1⟩ ⟨l2⟩))(hg:JH P fi=true)(hm:Mem w0 w X L)
 (h:∀ a fn r0 l w2 (LB:LoopState→Option Code→ag),LB=fD a fn r0 ps (K6 c) (K7 c)→Fr a n D S→l=r0+1→w.heap.size=r0→Mem w0 w2 X ((l,LB .ready none)::(r0,eh (some []))::L) →
  C P fi (l1++[.func (.yield l) #[] #[]]++l2) w2 fun _ w3=>∃ st pd,st≠.busy∧w3.heap[l]?=some (fD a fn r0 ps (K6 c) (K7 c) st pd).Jd ∧
   (∀ w4,w4={ w3 with heap:=w3.heap.setIfInBounds l (.loop (cJ a fn r0 ps (K6 c) (K7 c) .exhausted pd)) } →
    (match pd with
     | none=>GN k n ({ target:=.collected r0,args:=#[] }::D) S w4
     | some j=>HW P none j k n ({ target:=.collected r0,args:=#[] }::D) S w4))):HW P none c k n D S w:=fun a hf=>by
 cases c <;> simp [Rk] at hc
 rename_i f' zg dp cZ
 obtain ⟨rfl,rfl⟩:=hc
 refine wpIn_rangeFunc fun fn _=>?_
 have rY:=(hm.alloc (eh (some [])))
 have fb:=rY.alloc (fD a fn w.heap.size zg dp cZ .ready none)
 have hsz:(w.alloc (eh (some [])).Jd).heap.size=w.heap.size+1:=by simp
 rw [hsz] at fb
 refine ⟨w.heap.size+1,[{ target:=.collected w.heap.size,args:=#[] }],((w.alloc (eh (some [])).Jd).alloc (fD a fn w.heap.size zg dp cZ .ready none).Jd),{ target:=.fn (.func fi) ⟨l2⟩,args:=⟨l1⟩++#[.func (.yield (w.heap.size+1)) #[] #[]] },((w.alloc (eh (some [])).Jd).alloc (fD a fn w.heap.size zg dp cZ .ready none).Jd),fi,⟨l1++[.func (.yield (w.heap.size+1)) #[] #[]]++l2⟩,
  ((w.alloc (eh (some [])).Jd).alloc (fD a fn w.heap.size zg dp cZ .ready none).Jd),?_,?_,fun _ _=>trivial,?_,fun h=>by simp [Fw] at h,fZ.2 ?_⟩
 · show (Instr.enterLoop fn a.tmps zg dp cZ none).run P w=_
   simp [Instr.enterLoop,ag.Jd,cJ]
 · have h1:(rangeCall f' (w.heap.size+1)).args.map a.eval=#[.func (.yield (w.heap.size+1)) #[] #[]]:=by simp [Act.eval]
   simp only [resolve,h1]
   show (Deferred.ofValue (a.eval f') _).run P _=_
   rw [hf.eval hv]
   rfl
 · have:=gr (args:=⟨l1++[.func (.yield (w.heap.size+1)) #[] #[]]++l2⟩) hg ((w.alloc (eh (some [])).Jd).alloc (fD a fn w.heap.size zg dp cZ .ready none).Jd)
   simp only [invoke]
   rw [show (⟨l1⟩++#[Value.func (.yield (w.heap.size+1)) #[] #[]]++⟨l2⟩:Array Value)=⟨l1++[.func (.yield (w.heap.size+1)) #[] #[]]++l2⟩ from by apply Array.ext'; simp]
   exact this
 · refine Calls.mono (h a fn w.heap.size (w.heap.size+1) _ _ rfl hf rfl rfl fb) fun e w3 he=>?_
   obtain ⟨v,rfl,st,pd,cF,hl,hk⟩:=he
   have hl:w3.heap[w.heap.size+1]?=some (.loop (cJ a fn w.heap.size zg dp cZ st pd)):=hl
   have h1:=J6 (P:=P) hl rfl
   have h2:=QE (P:=P) (o':=.loop (cJ a fn w.heap.size zg dp cZ .exhausted pd)) hl rfl
   refine ⟨pd,{ w3 with heap:=w3.heap.setIfInBounds (w.heap.size+1) (.loop (cJ a fn w.heap.size zg dp cZ .exhausted pd)) },?_,?_⟩
   · have e:({ cJ a fn w.heap.size zg dp cZ st pd with state:=.exhausted }:Loop)=cJ a fn w.heap.size zg dp cZ .exhausted pd:=rfl
     have hb:((cJ a fn w.heap.size zg dp cZ st pd).state==LoopState.busy)=false:=by simpa [cJ] using cF
     have h1':(getObj (w.heap.size+1)).run P w3=.ok (.loop (cJ a fn w.heap.size zg dp cZ st pd)) w3:=h1
     simp only [Instr.endLoop,Instr.getLoop,Sem.run_bind,h1',Result.andThen_ok,Sem.run_pure,hb,L0,if_false,e,h2]
     rfl
   · have y9:=hk _ rfl
     have dV:Fr { a with defers:=[{ target:=.collected w.heap.size,args:=#[] }]++a.defers } n ({ target:=.collected w.heap.size,args:=#[] }::D) S:=⟨hf.size,by simp [hf.defers],hf.get⟩
     cases pd with
     | none=>exact y9 _ dV
     | some j=>exact y9 _ dV
theorem Xw{w4:World}{l fn r0:Nat}{a:Act}{ps:Array Tmp}{dp cZ:Code}{st:LoopState}{pd:Option Code}(hm:Mem w0 w X ((l,fD a fn r0 ps dp cZ st pd)::L))(h4:w4={ w with heap:=w.heap.setIfInBounds l (.loop (cJ a fn r0 ps dp cZ .exhausted pd)) }):Mem w0 w4 X L:=by
 subst h4
 exact (hm.setObj (j:=0) (o':=.loop (cJ a fn r0 ps dp cZ .exhausted pd)) rfl).tail
abbrev mark(r0:Nat):Deferred:={ target:=.collected r0,args:=#[] }
def nX(P:Program)(fn:Func)(R:Value→World→Prop)(a:Act)(w:World):Prop:=LeavesInM (Fw none) 0 P fn a.tmps (Rt R) a.defers .returning w
theorem Zt{f:FuncId}{fn:Func}{vs:Ti}{R:Value→World→Prop}(hf:P.funcs[f]?=some fn)(hb:fn.body.isSome=true)(hn:fn.ntmps=n)(hl:Nat.ble vs.length n=true)
 (h:∀ (k:Ks) [cH k],(∀ a w,nX P fn R a w→k.ret a w)→(∀ a w,nX P fn R a w→k.norm a w)→HW P none (XS fn) k n [] (eJ 0 vs) w):C P f vs w R:=by
 obtain ⟨c,hc⟩:=Option.isSome_iff_exists.1 hb
 have lk:XS fn=c:=by simp [XS,hc]
 refine fZ.1 (callsIn_of_wp_marks (F:=Fw none) (n:=0) hf hc trivial ?_)
 have dV:=Fr.init vs n (by simpa using hl)
 haveI:cH { norm:=nX P fn R,ret:=nX P fn R,ex:=fun _ _ _=>False }:=⟨fun _ _ _ _ _ h=>h⟩
 have hW:=h { norm:=nX P fn R,ret:=nX P fn R,ex:=fun _ _ _=>False } (fun _ _ h=>h) (fun _ _ h=>h) _ dV
 rw [lk] at hW
 subst hn
 refine wpIn_mono hW fun e a w' hq=>?_
 cases e with
 | normal=>exact hq
 | ret=>exact hq
 | exit i=>exact hq.elim
 | goto l=>exact hq.elim
 | panic c=>exact hq.elim
 | outgrown=>exact hq.elim
theorem Rs.results{a:Act}{fn:Func}{rs:List ResultVar}{vs:Ti}(hr:fn.results.toList=rs)(h:Rs P w S rs vs)(hf:Fr a n D S):(results fn a.tmps).run P w=.ok (Mq vs) w:=by
 have:=h.run hf
 subst hr
 have he:Go.results fn a.tmps=(do
  let vs ← fn.results.mapM (ll a.tmps)
  pure (if h:vs.size=1 then vs[0] else .tuple vs)):=rfl
 rw [he,Sem.run_bind,Array.mapM_eq_mapM_toList]
 simp only [Sem.run_map,this,Result.andThen_ok,Sem.run_pure]
 congr 1
 match vs with
 | []=>rfl
 | [v]=>rfl
 | v::u::l=>simp [Mq]
theorem BO{r0:Nat}(hl:w.heap[r0]?=some (.deferred (some []))):(Instr.takeDeferred r0).run P w=.ok [] { w with heap:=w.heap.setIfInBounds r0 (.deferred none) }:=by
 have h1:=J6 (P:=P) hl rfl
 have h2:=QE (P:=P) (o':=.deferred none) hl rfl
 simp only [Instr.takeDeferred,Sem.run_bind,h1,Result.andThen_ok,h2,Sem.run_pure]
theorem RJ{K:Act→World→Prop}{fn:Func}{R:Value→World→Prop}{rs:List ResultVar}{vs:Ti}{v:Value}(hk:∀ a w,nX P fn R a w→K a w)(hr:fn.results.toList=rs)(h:Rs P w S rs vs)(ht:Tup vs v)(hR:R v w):Ro K n [] S w:=fun a hf=>by
 rw [← ht.eq] at hR
 refine hk a w ?_
 unfold nX
 rw [hf.defers]
 exact ⟨_,h.results hr hf,_,rfl,hR⟩
theorem ly{K:Act→World→Prop}{fn:Func}{R:Value→World→Prop}{rs:List ResultVar}{vs:Ti}{v:Value}{r0:Nat}(hk:∀ a w,nX P fn R a w→K a w)(hr:fn.results.toList=rs)(hm:Mem w0 w X L)(j:Nat)(hj:aR L j=some (r0,eh (some [])))(ht:Tup vs v)
 (h:∀ w',Mem w0 w' X (Qr L j (eh none))→Rs P w' S rs vs∧R v w'):Ro K n [mark r0] S w:=fun a hf=>by
 rw [← ht.eq] at h
 refine hk a w ?_
 unfold nX
 rw [hf.defers]
 have hl:w.heap[r0]?=some (.deferred (some [])):=hm.get hj
 obtain ⟨h1,h2⟩:=h _ (hm.setObj (o':=.deferred none) hj)
 exact ⟨Tc,.inl ⟨r0,_,rfl,BO hl,_,h1.results hr hf,_,rfl,h2⟩⟩
end
end Go.Cx
namespace Go.Cx
open Go
theorem YR{α:Type}{enc:α→Ti}{es:Nat}(he:∀ x,(enc x).length=es):∀ (xs:List α) (i j:Nat) (x:α),xs[i]?=some x→j<es→(xs.flatMap enc)[i*es+j]?=(enc x)[j]?
 | [],i,j,x,h,_=>by simp at h
 | y::r,0,j,x,h,hj=>by
  simp at h; subst h
  simp only [Lk,Nat.zero_mul,LV]
  rw [L3 (by rw [he]; exact hj)]
 | y::r,i+1,j,x,h,hj=>by
  simp at h
  simp only [Lk]
  rw [L6 (by rw [he,Nat.succ_mul]; omega),he,show (i+1)*es+j-es=i*es+j by rw [Nat.succ_mul]; omega]
  exact YR he r i j x h hj
theorem JW{α:Type}{enc:α→Ti}{es:Nat}(he:∀ x,(enc x).length=es):∀ (xs:List α),(xs.flatMap enc).length=xs.length*es
 | []=>by simp
 | y::r=>by simp only [Lk,Lc,he,JW he r,Li,Nat.succ_mul]; omega
theorem Rd.nt{w:World}{p:Tg}{cs:Ti}(h:Rd w p cs):∀ u,cN none w u→Rd u p cs:=fun u hu=>by cases hu; exact h
theorem Rd.nd{w b:World}{p:Tg}{cs:Ti}(h:Rd b p cs):∀ u,cN (some (b,No)) w u→Rd u p cs:=fun _ hu=>h.Jj hu
theorem Rd.at0{w:World}{p:Tg}{cs:Ti}(h:Rd w p cs)(bO:cs≠[]):∃ b o,p=some ⟨b,o,none⟩:=by
 cases p with
 | none=>exact absurd h bO
 | some a=>obtain ⟨b,o,s⟩:=a; have:s=none:=h.1 bO; subst this; exact ⟨b,o,rfl⟩
theorem Rd.bS{α:Type}{w:World}{p:Tg}{enc:α→Ti}{xs:List α}{es i:Nat}{x:α}(h:Rd w p (xs.flatMap enc))(he:∀ x,(enc x).length=es)(h0:0<es)(hi:xs[i]?=some x):∃ b o,p=some ⟨b,o,none⟩:=
 h.at0 fun e=>by
  have:=YR he xs i 0 x hi h0
  rw [e] at this
  have hx:=he x
  cases hc:enc x with
  | nil=>rw [hc] at hx; simp at hx; omega
  | cons v r=>rw [hc] at this; simp at this
section
variable {P:Program}{md:Md}{w:World}{n:Nat}{D:List Deferred}{S:Tk}{dst:Option Tmp}{ty:TypeId}{pos:String}{af:Array Edge}{g:Option (Nat×Bool)}
theorem JU{α:Type}{enc:α→Ti}{xs:List α}{t:TypeId}{x:Operand}{b o i es:Nat}{el:α}(hx:ev S x=some (.pointer (some ⟨b,o+i*es,none⟩)))(hs:nW P t=some es)(hR:∀ u,cN md w u→Rd u (some ⟨b,o,none⟩) (xs.flatMap enc))
 (he:∀ x,(enc x).length=es) (hi:xs[i]?=some el):∀ a,Fr a n D S→Yl P md w a ⟨dst,.load t x,ty,pos,af,g⟩ (.agg ⟨enc el⟩):=
 si hx hs (he el) fun u hu j v hj=>by
  have aX:j<es:=by rw [← he el]; exact (Le.1 hj).1
  have:=(hR u hu).2 (i*es+j) v (by rw [YR he xs i j el hi aX]; exact hj)
  rw [← Nat.add_assoc] at this
  exact this
theorem Yr{α:Type}{enc:α→Ti}{xs:List α}{t:TypeId}{x:Operand}{b o i es fo:Nat}{el:α}{v:Value}(hx:ev S x=some (.pointer (some ⟨b,o+i*es+fo,none⟩)))(hs:qi P t=true)(hR:∀ u,cN md w u→Rd u (some ⟨b,o,none⟩) (xs.flatMap enc))
 (he:∀ x,(enc x).length=es) (hi:xs[i]?=some el) (hv:nth (enc el) fo=some v):∀ a,Fr a n D S→Yl P md w a ⟨dst,.load t x,ty,pos,af,g⟩ v:=
 F5 hx hs fun u hu=>by
  rw [XN] at hv
  have aX:fo<es:=by rw [← he el]; exact (Le.1 hv).1
  have:=(hR u hu).2 (i*es+fo) v (by rw [YR he xs i fo el hi aX]; exact hv)
  rw [← Nat.add_assoc] at this
  exact this
theorem J3{α:Type}{enc:α→Ti}{xs:List α}{t:TypeId}{x:Operand}{b o i:Nat}{el:α}{v:Value}(hx:ev S x=some (.pointer (some ⟨b,o+i*1,none⟩)))(hs:qi P t=true)(hR:∀ u,cN md w u→Rd u (some ⟨b,o,none⟩) (xs.flatMap enc))
 (he:∀ x,(enc x).length=1) (hi:xs[i]?=some el) (hv:nth (enc el) 0=some v):∀ a,Fr a n D S→Yl P md w a ⟨dst,.load t x,ty,pos,af,g⟩ v:=Yr (fo:=0) hx hs hR he hi hv
def lA(P:Program)(T:TypeId):Bool:=match P.underlying T with
 | some (.struct ⟨[f, h]⟩) => f.offset == 0 && h.offset == 1 && f.name != "_" && h.name != "_" && (match P.underlying f.type, P.underlying h.type with | some (.int _), some (.int _) => true | _, _ => false) && !P.stoodInHeld T && !P.eqGuardType P.depth T
 | _=>false
theorem VT{T:TypeId}{cs:Array Value}{off:Nat}{v:Value}{k:IntKind}(h:P.underlying T=some (.int k))(hv:cs[off]?=some v)(u:World):(part T cs off).run P u=.ok v u:=by
 simp [part,isAgg,JC h,hv]
theorem xr{T:TypeId}{d:Nat}{k1 k2:IntKind}{a b c e:Int}(h:lA P T=true)(u:World):(Op.equalIn (d+2) T (.agg ⟨[.int k1 a,.int k2 b]⟩) (.agg ⟨[.int k1 c,.int k2 e]⟩)).run P u=.ok (decide (a=c∧b=e)) u:=by
 unfold lA at h
 split at h
 · rename_i f g hu
   simp only [LJ,beq_iff_eq,bne_iff_ne,Bool.not_eq_true'] at h
   obtain ⟨⟨⟨⟨⟨⟨Mr,Mt⟩,Bf⟩,RL⟩,Bg⟩,cF⟩,_⟩:=h
   have vB:P.fieldsOf T=⟨[f,g]⟩:=by unfold Program.fieldsOf; rw [hu]
   rw [run_equalIn_struct u (d+1) T _ _ (by rw [vB]; exact hu) cF,vB]
   cases h1:P.underlying f.type with
   | none=>simp [h1] at Bg
   | some d1=>
    cases h2:P.underlying g.type with
    | none=>cases d1 <;> simp [h1,h2] at Bg
    | some d2=>
     cases d1 <;> simp [h1,h2] at Bg
     cases d2 <;> simp at Bg
     simp only [Op.eqFields,Bf,RL,ne_eq,not_false_eq_true,if_true,Sem.run_bind,Mr,Mt]
     rw [VT h1 (v:=.int k1 a) rfl,Result.andThen_ok,VT h1 (v:=.int k1 c) rfl,Result.andThen_ok,run_equalIn_int u d _ _ _ _ _ h1,Result.andThen_ok,Sem.run_ite]
     by_cases Ge:a=c
     · subst Ge
       simp only [beq_self_eq_true,Bool.not_true,L0,if_false,Sem.run_bind]
       rw [VT h2 (v:=.int k2 b) rfl,Result.andThen_ok,VT h2 (v:=.int k2 e) rfl,Result.andThen_ok,run_equalIn_int u d _ _ _ _ _ h2,Result.andThen_ok,Sem.run_ite]
       by_cases hbe:b=e
       · simp [hbe]
       · simp [hbe]
     · simp [Ge]
 · cases h
theorem BP{T:TypeId}{op:BinOp}{x y:Operand}{xs ys:Array Value}(h:lA P T=true)(u:World):(eqGuard op T x y (.agg xs) (.agg ys)).run P u=.ok () u:=by
 unfold lA at h
 split at h
 · simp only [LJ,beq_iff_eq,bne_iff_ne,Bool.not_eq_true'] at h
   have hg:=h.2
   unfold eqGuard
   cases op <;> simp [hg]
 · cases h
theorem sD{t yt:TypeId}{x y:Operand}{k1 k2:IntKind}{a b c e:Int}(hx:ev S x=some (.agg ⟨[.int k1 a,.int k2 b]⟩))(hy:ev S y=some (.agg ⟨[.int k1 c,.int k2 e]⟩))(h:lA P t=true) :
 ∀ ac,Fr ac n D S→Yl P md w ac ⟨dst,.binOp .eql t x y yt,ty,pos,af,g⟩ (.bool (decide (a=c∧b=e))):=QU hx hy fun u=>by
 have:(Op.equal t (.agg ⟨[.int k1 a,.int k2 b]⟩) (.agg ⟨[.int k1 c,.int k2 e]⟩)).run P u=.ok (decide (a=c∧b=e)) u:=xr (d:=9998) h u
 simp only [Sem.run_bind,BP h,Result.andThen_ok,binOp,this,Sem.run_pure]
theorem jo{t yt:TypeId}{x y:Operand}{k1 k2:IntKind}{a b c e:Int}(hx:ev S x=some (.agg ⟨[.int k1 a,.int k2 b]⟩))(hy:ev S y=some (.agg ⟨[.int k1 c,.int k2 e]⟩))(h:lA P t=true) :
 ∀ ac,Fr ac n D S→Yl P md w ac ⟨dst,.binOp .neq t x y yt,ty,pos,af,g⟩ (.bool (decide (¬ (a=c∧b=e)))):=QU hx hy fun u=>by
 have:(Op.equal t (.agg ⟨[.int k1 a,.int k2 b]⟩) (.agg ⟨[.int k1 c,.int k2 e]⟩)).run P u=.ok (decide (a=c∧b=e)) u:=xr (d:=9998) h u
 simp only [Sem.run_bind,BP h,Result.andThen_ok,binOp,this,Sem.run_pure]
 by_cases h:a=c∧b=e <;> simp [h]
end
end Go.Cx
namespace Go.Cx
open Go
inductive LK where
 | num (k:IntKind)
 | bit
 | str
def sE:LK→Value→Bool
 | .num k,.int k' _=>decide (k'=k)
 | .bit,.bool _=>true
 | .str,.string _=>true
 | _,_=>false
def lB:Value→Value→Bool
 | .int _ a,.int _ b=>decide (a=b)
 | .bool a,.bool b=>a==b
 | .string a,.string b=>a.toList==b.toList
 | _,_=>false
def VM:List LK→Ti→Bool
 | [],[]=>true
 | k::ks,v::vs=>sE k v&&VM ks vs
 | _,_=>false
def jq:Ti→Ti→Bool
 | [],[]=>true
 | a::as,b::bs=>lB a b&&jq as bs
 | _,_=>false
theorem VF:∀ {ks:List LK} {vs:Ti},VM ks vs=true→vs.length=ks.length
 | [],[],_=>rfl
 | [],_::_,h=>by simp [VM] at h
 | _::_,[],h=>by simp [VM] at h
 | k::ks,v::vs,h=>by simp only [VM,LJ] at h; simp [VF h.2]
theorem YT:∀ {ks js:List LK} {vs:Ti},VM (ks++js) vs=true→VM ks (vs.take ks.length)=true∧VM js (vs.drop ks.length)=true
 | [],_,vs,h=>by simpa [VM] using h
 | k::ks,js,[],h=>by simp [VM] at h
 | k::ks,js,v::vs,h=>by
  simp only [List.cons_append,VM,LJ] at h
  have:=YT h.2
  simp only [Li,List.take_succ_cons,List.drop_succ_cons,VM,LJ]
  exact ⟨⟨h.1,this.1⟩,this.2⟩
theorem qq:∀ (m:Nat) (as bs:Ti),as.length=bs.length→jq as bs=(jq (as.take m) (bs.take m)&&jq (as.drop m) (bs.drop m))
 | 0,as,bs,_=>by simp [jq]
 | m+1,[],[],_=>by simp [jq]
 | m+1,[],_::_,h=>by simp at h
 | m+1,_::_,[],h=>by simp at h
 | m+1,a::as,b::bs,h=>by
  simp only [Li,Nat.add_right_cancel_iff] at h
  simp only [List.take_succ_cons,List.drop_succ_cons,jq,qq m as bs h,Bool.and_assoc]
def RM(g:TypeId→Option (List LK)):List Field→Nat→Option (List LK)
 | [],_=>some []
 | f :: r, o => if (f.name != "_" && Nat.beq f.offset o) = true then (match g f.type with | some ks => (match RM g r (o + ks.length) with | some js => some (ks ++ js) | none => none) | none => none) else none
def BQ(ks:List LK):Nat→List LK
 | 0=>[]
 | n+1=>ks++BQ ks n
def Mu(P:Program)(t:TypeId)(o:Option (List LK)):Option (List LK):=match o,gj P t with
 | some ks,some m=>if Nat.beq ks.length m=true then some ks else none
 | _,_=>none
def Mv(P:Program):Nat→TypeId→Option (List LK)
 | 0,_=>none
 | n+1,t=>Mu P t (match P.underlying t with
  | some (.int k)=>some [.num k]
  | some .bool=>some [.bit]
  | some .string=>some [.str]
  | some (.struct fs)=>if P.stoodInHeld t=true then none else RM (Mv P n) fs.toList 0
  | some (.array m e)=>(match Mv P n e with | some ks=>some (BQ ks m) | none=>none)
  | _=>none)
def Yd(P:Program)(t:TypeId):Bool:=match P.underlying t with | some (.struct _)=>true | some (.array _ _)=>true | _=>false
def zh(g:Bool)(cs:Ti):Value:=bif g then .agg ⟨cs⟩ else cs.headD undef
section
variable {P:Program}{u:World}
theorem zk{t:TypeId}{o:Option (List LK)}{ks:List LK}(h:Mu P t o=some ks):o=some ks∧gj P t=some ks.length:=by
 unfold Mu at h
 split at h
 · rename_i js m hs
   split at h
   · rename_i hb; cases h; exact ⟨rfl,by rw [hs]; congr 1; exact (Nat.eq_of_beq_eq_true hb).symm⟩
   · cases h
 · cases h
theorem lC{t:TypeId}{m:Nat}(h:gj P t=some m)(hu:(P.underlying t).isSome=true):(isAgg t).run P u=.ok (Yd P t) u:=by
 obtain ⟨d,hd⟩:=Option.isSome_iff_exists.1 hu
 simp only [isAgg,Sem.run_bind,JC hd,Result.andThen_ok,Yd,hd]
 cases d <;> simp
theorem X0{t:TypeId}{m:Nat}(h:gj P t=some m)(hu:(P.underlying t).isSome=true)(h1:Yd P t=false→m=1)(xs:Ti)(off:Nat)(hl:off+m≤xs.length) :
 (part t ⟨xs⟩ off).run P u=.ok (zh (Yd P t) ((xs.drop off).take m)) u:=by
 simp only [part,Sem.run_bind,lC h hu,Result.andThen_ok]
 cases hg:Yd P t with
 | true=>
  simp only [if_true,Sem.run_bind,gk h,Result.andThen_ok,Sem.run_pure,zh,cond_true]
  congr 2
  apply Array.ext'
  simp
 | false=>
  have:=h1 hg
  subst this
  simp only [L0,if_false]
  have:(⟨xs⟩:Array Value)[off]?=some (xs[off]'(by omega)):=by simp
  rw [this]
  simp only [Sem.run_pure,zh,cond_false]
  rw [List.drop_eq_getElem_cons Ta]
  rfl
def EqW(P:Program)(d:Nat)(t:TypeId)(ks:List LK):Prop:=
 gj P t=some ks.length∧(P.underlying t).isSome=true∧(Yd P t=false→ks.length=1) ∧
  ∀ (u:World) (cs ds:Ti),VM ks cs=true→VM ks ds=true→(Op.equalIn d t (zh (Yd P t) cs) (zh (Yd P t) ds)).run P u=.ok (jq cs ds) u
theorem xu{d:Nat}{g:TypeId→Option (List LK)}(hg:∀ t ks,g t=some ks→EqW P d t ks)(u:World):∀ (fs:List Field) (o:Nat) (ks:List LK) (xs ys:Ti),RM g fs o=some ks→VM ks (xs.drop o)=true→VM ks (ys.drop o)=true→o≤xs.length→o≤ys.length →
 (Op.eqFields d ⟨xs⟩ ⟨ys⟩ fs).run P u=.ok (jq (xs.drop o) (ys.drop o)) u
 | [],o,ks,xs,ys,h,hx,hy,_,_=>by
  simp only [RM,Option.some.injEq] at h
  subst h
  have h1:=Ll.1 (VF hx)
  have h2:=Ll.1 (VF hy)
  rw [h1,h2]
  rfl
 | f::r,o,ks,xs,ys,h,hx,hy,rZ,fz=>by
  simp only [RM] at h
  split at h
  · rename_i hc
    simp only [LJ,bne_iff_ne,ne_eq,Nat.beq_eq] at hc
    split at h
    · rename_i k1 dq
      split at h
      · rename_i k2 iB
        cases h
        obtain ⟨hsz,hu,h1,heq⟩:=hg _ _ dq
        have ZX:=VF hx
        have hly:=VF hy
        rw [Lm,Lc] at ZX hly
        obtain ⟨nL,BR⟩:=YT hx
        obtain ⟨Fv,Mw⟩:=YT hy
        rw [List.drop_drop] at BR Mw
        have ih:=xu hg u r (o+k1.length) k2 xs ys iB BR Mw Ta Ta
        simp only [Op.eqFields,hc.1,ne_eq,not_false_eq_true,if_true,Sem.run_bind,hc.2]
        rw [X0 hsz hu h1 xs o Ta,Result.andThen_ok,X0 hsz hu h1 ys o Ta,Result.andThen_ok,heq u _ _ nL Fv,Result.andThen_ok,Sem.run_ite]
        rw [qq k1.length (xs.drop o) (ys.drop o) (by simp; omega),List.drop_drop,List.drop_drop]
        cases he:jq ((xs.drop o).take k1.length) ((ys.drop o).take k1.length) with
        | true=>simp only [Bool.not_true,L0,if_false,ih,Bool.true_and]
        | false=>simp
      · cases h
    · cases h
  · cases h
theorem xv{d:Nat}{e:TypeId}{k1:List LK}(hg:EqW P d e k1)(hc:P.cellsOf e=k1.length)(u:World):∀ (n i:Nat) (xs ys:Ti),VM (BQ k1 n) (xs.drop (i*k1.length))=true→VM (BQ k1 n) (ys.drop (i*k1.length))=true→i*k1.length≤xs.length→i*k1.length≤ys.length →
 (Op.eqItems d e (P.cellsOf e) ⟨xs⟩ ⟨ys⟩ (List.range' i n)).run P u=.ok (jq (xs.drop (i*k1.length)) (ys.drop (i*k1.length))) u
 | 0,i,xs,ys,hx,hy,_,_=>by
  have h1:=Ll.1 (VF hx)
  have h2:=Ll.1 (VF hy)
  rw [h1,h2]
  rfl
 | n+1,i,xs,ys,hx,hy,rZ,fz=>by
  obtain ⟨hsz,hu,h1,heq⟩:=hg
  simp only [BQ] at hx hy
  have ZX:=VF hx
  have hly:=VF hy
  rw [Lm,Lc] at ZX hly
  obtain ⟨nL,BR⟩:=YT hx
  obtain ⟨Fv,Mw⟩:=YT hy
  rw [List.drop_drop] at BR Mw
  have e1:i*k1.length+k1.length=(i+1)*k1.length:=by rw [Nat.succ_mul]
  rw [e1] at BR Mw
  have ih:=xv ⟨hsz,hu,h1,heq⟩ hc u n (i+1) xs ys BR Mw Ta Ta
  rw [List.range'_succ]
  simp only [Op.eqItems,Sem.run_bind,hc]
  rw [hc] at ih
  rw [X0 hsz hu h1 xs _ Ta,Result.andThen_ok,X0 hsz hu h1 ys _ Ta,Result.andThen_ok,heq u _ _ nL Fv,Result.andThen_ok,Sem.run_ite]
  rw [qq k1.length (xs.drop (i*k1.length)) (ys.drop (i*k1.length)) (by simp; omega),List.drop_drop,List.drop_drop,e1]
  cases he:jq ((xs.drop (i*k1.length)).take k1.length) ((ys.drop (i*k1.length)).take k1.length) with
  | true=>simp only [Bool.not_true,L0,if_false,ih,Bool.true_and]
  | false=>simp
theorem iL{k:LK}{cs:Ti}(h:VM [k] cs=true):∃ v,cs=[v]∧sE k v=true:=by
 match cs,h with
 | [v],h=>exact ⟨v,rfl,by simpa [VM] using h⟩
 | [],h=>simp [VM] at h
 | _::_::_,h=>simp [VM] at h
theorem vH:∀ (n:Nat) (t:TypeId) (ks:List LK) (d:Nat),Mv P n t=some ks→EqW P (d+n) t ks
 | 0,t,ks,d,h=>by simp [Mv] at h
 | n+1,t,ks,d,h=>by
  obtain ⟨h1,h2⟩:=zk h
  cases hu:P.underlying t with
  | none=>simp [hu] at h1
  | some D=>
   refine ⟨h2,by rw [hu]; rfl,fun hg=>?_,fun u cs ds hx hy=>?_⟩
   · cases D <;> simp [hu,Yd] at h1 hg <;> subst h1 <;> rfl
   cases D <;> simp only [hu,Option.some.injEq,reduceCtorEq] at h1
   case bool=>
    subst h1
    obtain ⟨a,rfl,ha⟩:=iL hx
    obtain ⟨b,rfl,hb⟩:=iL hy
    cases a <;> simp [sE] at ha
    cases b <;> simp [sE] at hb
    simp [Yd,hu,zh,jq,lB,Op.equalIn,JC hu]
   case int k=>
    subst h1
    obtain ⟨a,rfl,ha⟩:=iL hx
    obtain ⟨b,rfl,hb⟩:=iL hy
    cases a <;> simp [sE] at ha
    cases b <;> simp [sE] at hb
    subst ha; subst hb
    simp [Yd,hu,zh,jq,lB,Op.equalIn,JC hu,BEq.beq]
   case string=>
    subst h1
    obtain ⟨a,rfl,ha⟩:=iL hx
    obtain ⟨b,rfl,hb⟩:=iL hy
    cases a <;> simp [sE] at ha
    cases b <;> simp [sE] at hb
    simp [Yd,hu,zh,jq,lB,Op.equalIn,JC hu,beq_toListBytes]
   case struct fs=>
    split at h1
    · cases h1
    · rename_i cF
      have vB:P.fieldsOf t=fs:=by simp [Program.fieldsOf,hu]
      have:=xu (P:=P) (d:=d+n) (g:=Mv P n) (fun t ks hk=>vH n t ks d hk) u fs.toList 0 ks cs ds h1 (by simpa using hx) (by simpa using hy) (LL _) (LL _)
      simp only [Yd,hu,zh,cond_true]
      rw [show d+(n+1)=(d+n)+1 from rfl,run_equalIn_struct u (d+n) t _ _ (by rw [vB]; exact hu) (by simpa using cF),vB]
      simpa using this
   case array m e=>
    split at h1
    · rename_i k1 dq
      cases h1
      have hE:=vH n e k1 d dq
      have PI:P.cellsOf e=k1.length∧∃ i,P.info? e=some i:=by
       have:=hE.1
       unfold gj at this
       cases hi:P.info? e with
       | none=>simp [hi] at this
       | some i=>simp [hi] at this; exact ⟨by simp [Program.cellsOf,hi,this],i,rfl⟩
      obtain ⟨hc,i,hi⟩:=PI
      have:=xv hE hc u m 0 cs ds (by simpa using hx) (by simpa using hy) Tc Tc
      simp only [Yd,hu,zh,cond_true]
      rw [show d+(n+1)=(d+n)+1 from rfl,run_equalIn_array u (d+n) _ _ hu hi,List.range_eq_range']
      simpa using this
    · cases h1
def flat(P:Program)(t:TypeId)(ks:List LK):Bool:=(match Mv P 6 t with | some js=>decide (js.length=ks.length)&&(js.zip ks).all (fun (a,b)=>match a,b with | .num x,.num y=>decide (x=y) | .bit,.bit=>true | .str,.str=>true | _,_=>false) | none=>false)&&Yd P t&&!P.eqGuardType P.depth t
theorem IV:∀ (a b:List LK),a.length=b.length→(a.zip b).all (fun (a,b)=>match a,b with | .num x,.num y=>decide (x=y) | .bit,.bit=>true | .str,.str=>true | _,_=>false)=true→a=b
 | [],[],_,_=>rfl
 | x::a,y::b,h,g=>by
  simp only [List.zip_cons_cons,List.all_cons,LJ] at g
  simp only [Li,Nat.add_right_cancel_iff] at h
  rw [IV a b h g.2]
  have:=g.1
  cases x <;> cases y <;> simp at this ⊢
  exact this
 | [],_::_,h,_=>by simp at h
 | _::_,[],h,_=>by simp at h
theorem iM{t:TypeId}{ks:List LK}(h:flat P t ks=true):Mv P 6 t=some ks∧Yd P t=true∧P.eqGuardType P.depth t=false:=by
 unfold flat at h
 simp only [LJ,Bool.not_eq_true'] at h
 obtain ⟨⟨h1,h2⟩,h3⟩:=h
 split at h1
 · rename_i js hj
   simp only [LJ,LO] at h1
   rw [hj,IV js ks h1.1 h1.2]
   exact ⟨rfl,h2,h3⟩
 · cases h1
theorem BS{t:TypeId}{op:BinOp}{x y:Operand}{xs ys:Array Value}(h:P.eqGuardType P.depth t=false)(u:World):(eqGuard op t x y (.agg xs) (.agg ys)).run P u=.ok () u:=by
 unfold eqGuard
 cases op <;> simp [h]
variable {md:Md}{w:World}{n:Nat}{D:List Deferred}{S:Tk}{dst:Option Tmp}{ty:TypeId}{pos:String}{af:Array Edge}{g:Option (Nat×Bool)}
theorem Zy{t:TypeId}{ks:List LK}{cs ds:Ti}(h:flat P t ks=true)(hx:VM ks cs=true)(hy:VM ks ds=true)(u:World):(Op.equal t (.agg ⟨cs⟩) (.agg ⟨ds⟩)).run P u=.ok (jq cs ds) u:=by
 obtain ⟨h1,h2,_⟩:=iM h
 have:=(vH (P:=P) 6 t ks 9994 h1).2.2.2 u cs ds hx hy
 rw [h2] at this
 exact this
theorem RN{t yt:TypeId}{x y:Operand}{ks:List LK}{cs ds:Ti}(hx:ev S x=some (.agg ⟨cs⟩))(hy:ev S y=some (.agg ⟨ds⟩))(h:flat P t ks=true)(h1:VM ks cs=true)(h2:VM ks ds=true) :
 ∀ ac,Fr ac n D S→Yl P md w ac ⟨dst,.binOp .eql t x y yt,ty,pos,af,g⟩ (.bool (jq cs ds)):=QU hx hy fun u=>by
 simp only [Sem.run_bind,BS (iM h).2.2,Result.andThen_ok,binOp,Zy h h1 h2,Sem.run_pure]
theorem sG{t yt:TypeId}{x y:Operand}{ks:List LK}{cs ds:Ti}(hx:ev S x=some (.agg ⟨cs⟩))(hy:ev S y=some (.agg ⟨ds⟩))(h:flat P t ks=true)(h1:VM ks cs=true)(h2:VM ks ds=true) :
 ∀ ac,Fr ac n D S→Yl P md w ac ⟨dst,.binOp .neq t x y yt,ty,pos,af,g⟩ (.bool (!jq cs ds)):=QU hx hy fun u=>by
 simp only [Sem.run_bind,BS (iM h).2.2,Result.andThen_ok,binOp,Zy h h1 h2,Sem.run_pure]
def vI(P:Program)(s f:Nat):Option (Nat×Nat×Bool):=match P.underlying s with
 | some (.struct fs)=>match fs[f]? with
  | some fd=>match gj P fd.type with | some m=>if ((P.underlying fd.type).isSome&&(Yd P fd.type||Nat.beq m 1))=true then some (fd.offset,m,Yd P fd.type) else none | none=>none
  | none=>none
 | _=>none
theorem QF{s fi o m:Nat}{b:Bool}{x:Operand}{cs vs:Ti}(hx:ev S x=some (.agg ⟨cs⟩))(hf:vI P s fi=some (o,m,b))(hv:eP cs o m=some vs) :
 ∀ a,Fr a n D S→Yl P md w a ⟨dst,.field s x fi,ty,pos,af,g⟩ (zh b vs):=fun a dV u _=>by
 unfold vI at hf
 split at hf
 · rename_i fs hu
   split at hf
   · rename_i fd qk
     split at hf
     · rename_i m' hm
       split at hf
       · rename_i hc
         cases hf
         simp only [LJ,Bool.or_eq_true] at hc
         obtain ⟨h1,h2⟩:=kT m fd.offset cs vs hv
         have hlen:fd.offset+m≤cs.length∨m=0:=by
          rcases Nat.eq_zero_or_pos m with h0 | h0
          · exact .inr h0
          · left
            have hl:m-1<vs.length:=by omega
            have:=h2 (m-1) vs[m-1] (La hl)
            have:=(Le.1 this).1
            omega
         have RO:(cs.drop fd.offset).take m=vs:=by
          rcases hlen with hlen | h0
          · apply Kb
            intro j
            rw [LF,Kc]
            split
            · rename_i hj
              rw [La (by omega:j<vs.length)]
              exact h2 j vs[j] (La Ta)
            · rw [L8 Ta]
          · subst h0; rw [Ll.1 h1]; rfl
         have hp:(part fd.type ⟨cs⟩ fd.offset).run P u=.ok (zh (Yd P fd.type) vs) u:=by
          rcases hlen with hlen | h0
          · rw [X0 hm hc.1 (fun hg=>hc.2.elim (fun h=>by rw [hg] at h; cases h) fun h=>Nat.eq_of_beq_eq_true h) cs fd.offset hlen,RO]
          · subst h0
            have hg:Yd P fd.type=true:=hc.2.elim id fun h=>by cases h
            simp only [part,Sem.run_bind,lC hm hc.1,Result.andThen_ok,hg,if_true,gk hm,Sem.run_pure,zh,cond_true]
            congr 2
            rw [Ll.1 h1]
            apply Array.ext'
            simp
         simp [execOp,dV.eval hx,Instr.field,JC hu,qk,hp,asAgg]
       · cases hf
     · cases hf
   · cases hf
 · cases hf
end
end Go.Cx
namespace Go.Cx
open Go
def BU(P:Program)(t:TypeId):Bool:=match P.underlying t with | some (.pointer _)=>true | _=>false
def BV(P:Program)(t:TypeId):Bool:=match P.underlying t with | some (.slice _)=>true | _=>false
theorem sI{P:Program}{d:Nat}{t e:TypeId}{p:Tg}(he:P.underlying t=some (.pointer e))(u:World):(Op.equalIn (d+1) t (.pointer p) (.pointer none)).run P u=.ok p.isNone u:=by
 cases p <;> simp [Op.equalIn,JC he]
theorem BW{P:Program}{d:Nat}{t e:TypeId}{p:Tg}{l c:Nat}(he:P.underlying t=some (.slice e))(u:World):(Op.equalIn (d+1) t (.slice p l c) (.slice none 0 0)).run P u=.ok p.isNone u:=by
 cases p <;> simp [Op.equalIn,JC he]
section
variable {P:Program}{md:Md}{w:World}{n:Nat}{D:List Deferred}{S:Tk}{dst:Option Tmp}{ty:TypeId}{pos:String}{af:Array Edge}{g:Option (Nat×Bool)}
theorem Mx{t yt:TypeId}{x y:Operand}{p:Tg}(hx:ev S x=some (.pointer p))(hy:ev S y=some (.pointer none))(h:BU P t=true) :
 ∀ a,Fr a n D S→Yl P md w a ⟨dst,.binOp .eql t x y yt,ty,pos,af,g⟩ (.bool p.isNone):=QU hx hy fun u=>by
 unfold BU at h
 split at h
 · rename_i e he
   have hq:(Op.equal t (.pointer p) (.pointer none)).run P u=.ok p.isNone u:=sI (d:=9999) he u
   simp [eqGuard,binOp,hq]
 · cases h
theorem qt{t yt:TypeId}{x y:Operand}{p:Tg}(hx:ev S x=some (.pointer p))(hy:ev S y=some (.pointer none))(h:BU P t=true) :
 ∀ a,Fr a n D S→Yl P md w a ⟨dst,.binOp .neq t x y yt,ty,pos,af,g⟩ (.bool (!p.isNone)):=QU hx hy fun u=>by
 unfold BU at h
 split at h
 · rename_i e he
   have hq:(Op.equal t (.pointer p) (.pointer none)).run P u=.ok p.isNone u:=sI (d:=9999) he u
   simp [eqGuard,binOp,hq]
 · cases h
theorem vJ{t yt:TypeId}{x y:Operand}{p:Tg}{l c:Nat}(hx:ev S x=some (.slice p l c))(hy:ev S y=some (.slice none 0 0))(h:BV P t=true) :
 ∀ a,Fr a n D S→Yl P md w a ⟨dst,.binOp .eql t x y yt,ty,pos,af,g⟩ (.bool p.isNone):=QU hx hy fun u=>by
 unfold BV at h
 split at h
 · rename_i e he
   have hq:(Op.equal t (.slice p l c) (.slice none 0 0)).run P u=.ok p.isNone u:=BW (d:=9999) he u
   simp [eqGuard,binOp,hq]
 · cases h
end
theorem Mem.Vq{w:World}{r:Nat}{b:ag}(h:w.heap[r]?=some b.Jd):Mem w w (fun k=>k=r) [(r,b)]:=
 ⟨rfl,rfl,rfl,LP _,fun _ _ _=>rfl,by simp [h],Tc,by cases hb:b.real <;> simp [ak,hb]⟩
theorem Acc.spot{e es n cap g:Nat}{b:ag}{p:Tg}{cells:Ti}(h:Acc e es p n cap cells g b)(hc:cap≠0):∀ ad,p=some ad→ad.spot=none:=by
 rcases h.cases' with ⟨_,h2,_⟩ | ⟨l,h2,_⟩
 · exact absurd h2 hc
 · intro ad e; rw [h2] at e; cases e; rfl
theorem Acc.le{e es n cap g:Nat}{b:ag}{p:Tg}{cells:Ti}(h:Acc e es p n cap cells g b):n≤cap:=by
 rcases h.cases' with ⟨h1,h2,_⟩ | ⟨l,_,_,h2,_⟩ <;> omega
theorem Acc.apart{w0 w:World}{X:Bs}{L:Tf}{e es n cap g r:Nat}{b c:ag}{p:Tg}{cells:Ti}(h:Acc e es p n cap cells g b)(hm:Mem w0 w X L)(j k:Nat)(hj:aR L j=some (g,b))(hk:aR L k=some (r,c))(vm:Nat.beq j k=false)(hc:c.real=true:=by rfl) :
 cells≠[]→∀ ad,p=some ad→ad.block≠r:=by
 rcases h.cases' with ⟨h1,_,_⟩ | ⟨l,h2,h3,_⟩
 · intro bO
   have:=h.len
   rw [h1,Nat.zero_mul] at this
   exact absurd (Ll.1 this) bO
 · intro _ ad e
   rw [h2] at e
   cases e
   subst h3
   exact hm.ne j k hj hk vm rfl hc
theorem Rd.Yu{w w':World}{p:Tg}{cs:Ti}{Y:Bs}(h:Rd w p cs)(hx:Ext Y w w')(hY:cs≠[]→∀ a,p=some a→¬ Y a.block):Rd w' p cs:=by
 by_cases hc:cs=[]
 · subst hc
   cases p with
   | none=>rfl
   | some a=>exact ⟨fun h=>absurd rfl h,Tc⟩
 · exact h.ext hx (hY hc)
def Jk(x:UInt8):List Value:=[.int .u8 x.toNat]
theorem JG(x:UInt8):(Jk x).length=1:=rfl
theorem Zl:∀ xs:Th,(xs.flatMap Jk).all (·.oneCell')=true
 | []=>rfl
 | x::r=>by simp only [Lk,List.all_append,Zl r,Bool.and_true]; rfl
theorem J0(xs:Th):(xs.flatMap Jk).length=xs.length*1:=JW JG xs
theorem vK{xs:Th}(h:xs.flatMap Jk=[]):xs=[]:=by
 have:=J0 xs
 rw [h] at this
 exact Ll.1 (by simpa using this.symm)
theorem Rd.sub{w:World}{p:Tg}{xs:Th}{cap l m:Nat}(h:Rd w p (xs.flatMap Jk))(eQ:xs.length≤cap):Rd w (Cx.bP p cap l 1) (((xs.drop l).take m).flatMap Jk):=by
 refine Rd.bP h (fun j v hj=>?_) (fun e=>?_)
 · have hg:∀ (ys:Th) (i:Nat),(ys.flatMap Jk)[i]?=ys[i]?.map (fun x=>Value.int .u8 x.toNat):=fun ys=>by
    induction ys with
    | nil=>intro i; simp
    | cons y r ih=>
     intro i
     cases i with
     | zero=>rfl
     | succ i=>simp only [Lk,Jk,List.cons_append,L4,LW]; exact ih i
   rw [hg] at hj ⊢
   rw [LF] at hj
   split at hj
   · rw [Kc] at hj; rw [Nat.mul_one]; exact hj
   · cases hj
 · have:xs.drop l=[]:=List.drop_eq_nil_of_le Ta
   rw [this]; simp
theorem iN{p:Tg}{cap l es:Nat}{a:Addr}(h:bP p cap l es=some a):∃ ad,p=some ad∧ad.block=a.block:=by
 unfold bP at h
 split at h
 · exact ⟨a,h,rfl⟩
 · cases p with
   | none=>simp at h
   | some ad=>simp at h; exact ⟨ad,rfl,by rw [← h]⟩
end Go.Cx
namespace Go.Cx
open Go
def vL(l:Th):ByteArray:=⟨l.toArray⟩
theorem YX(l:Th):(vL l).toList=l:=by rw [ByteArray.toList_eq]; rfl
theorem YV:∀ (ys:Th) (i:Nat),(ys.flatMap Jk)[i]?=ys[i]?.map (fun x=>Value.int .u8 x.toNat)
 | [],i=>by simp
 | y::r,0=>rfl
 | y::r,i+1=>by simp only [Lk,Jk,List.cons_append,L4,LW]; exact YV r i
def lD(P:Program)(s t:TypeId):Bool:=match P.underlying s,P.underlying t with | some (.slice e),some .string=>(match P.underlying e with | some (.int .u8)=>true | _=>false) | _,_=>false
theorem BX{P:Program}{s t:TypeId}(h:lD P s t=true):∃ e,P.underlying s=some (.slice e)∧P.underlying e=some (.int .u8)∧P.underlying t=some .string:=by
 unfold lD at h
 split at h
 · rename_i e hs ht
   split at h
   · rename_i he; exact ⟨e,hs,he,ht⟩
   · cases h
 · cases h
theorem Gf{P:Program}{s t:TypeId}{p:Tg}{cap:Nat}{xs:Th}{u:World}(h:lD P s t=true)(hr:Rd u p (xs.flatMap Jk)):(convert s t (.slice p xs.length cap)).run P u=.ok (.string (vL xs)) u:=by
 obtain ⟨e,hs,he,ht⟩:=BX h
 cases p with
 | none=>
  have hr:xs.flatMap Jk=[]:=hr
  obtain rfl:=vK hr
  rw [run_convert_bytes_string u s t e none _ cap hs he ht]; rfl
 | some a=>
  by_cases bO:xs=[]
  · subst bO
    exact run_convert_bytes_back u s t e a cap [] hs he ht (fun j hj=>absurd hj Tc)
  · refine run_convert_bytes_back u s t e a cap xs hs he ht fun j hj=>?_
    obtain ⟨b,o,sp⟩:=a
    have cU:sp=none:=hr.1 fun e=>bO (vK e)
    subst cU
    have:=hr.2 j (.int .u8 xs[j].toNat) (by rw [YV,La hj]; rfl)
    by_cases fT:j=0
    · subst fT; simpa [Addr.add] using this
    · simpa [Addr.add,fT] using this
section
variable {P:Program}{md:Md}{w:World}{n:Nat}{D:List Deferred}{S:Tk}{dst:Option Tmp}{ty:TypeId}{pos:String}{af:Array Edge}{g:Option (Nat×Bool)}
theorem BY{s t:TypeId}{x:Operand}{p:Tg}{cap m:Nat}{xs:Th}(hx:ev S x=some (.slice p m cap))(h:lD P s t=true)(hR:∀ u,cN md w u→Rd u p (xs.flatMap Jk))(hm:m=xs.length) :
 ∀ a,Fr a n D S→Yl P md w a ⟨dst,.convert s t x,ty,pos,af,g⟩ (.string (vL xs)):=fun a hf u hu=>by
 subst hm
 simp [execOp,hf.eval hx,Gf h (hR u hu)]
theorem My{t yt:TypeId}{x y:Operand}{a b:Th}(hx:ev S x=some (.string (vL a)))(hy:ev S y=some (.string (vL b))) :
 ∀ c,Fr c n D S→Yl P md w c ⟨dst,.binOp .eql t x y yt,ty,pos,af,g⟩ (.bool (decide (a=b))):=by
 have:=BH (P:=P) (md:=md) (w:=w) (n:=n) (D:=D) (dst:=dst) (ty:=ty) (pos:=pos) (af:=af) (g:=g) (t:=t) (yt:=yt) hx hy
 rw [YX,YX] at this
 have e:(a==b)=decide (a=b):=by rw [Bool.eq_iff_iff]; simp
 rw [e] at this
 exact this
end
structure Ow where
 p:Tg
 n:Nat
 cap:Nat
 g:Nat
 b:ag
theorem Acc.J0{e n cap g:Nat}{b:ag}{p:Tg}{bs:Th}(h:Acc e 1 p n cap (bs.flatMap Jk) g b):n=bs.length:=by
 have:=h.len
 rw [Cx.J0] at this
 omega
theorem Acc.to{e es n cap g:Nat}{b:ag}{p:Tg}{cs ds:Ti}(h:Acc e es p n cap cs g b)(he:cs=ds):Acc e es p n cap ds g b:=he▸h
theorem X3:∀ (L:Tf) (ks:List Nat) (q:Nat×ag),q∈Zq L ks→∃ k,k∈ks∧aR L k=some q
 | _,[],_,h=>by simp [Zq] at h
 | L,k::r,q,h=>by
  simp only [Zq] at h
  split at h
  · rename_i x hx
    rcases LR.1 h with rfl | h
    · exact ⟨k,Tc,hx⟩
    · obtain ⟨j,h1,h2⟩:=X3 L r q h; exact ⟨j,by simp [h1],h2⟩
  · obtain ⟨j,h1,h2⟩:=X3 L r q h; exact ⟨j,by simp [h1],h2⟩
def xw:List Nat→Bool
 | []=>true
 | k::r=>r.all (fun j=>!Nat.beq k j)&&xw r
theorem Mem.pick{w0 w:World}{X:Bs}{L:Tf}(h:Mem w0 w X L)(ks:List Nat)(hk:xw ks=true):Mem w0 w X (Zq L ks):=by
 have cR:∀ q,q∈Zq L ks→q∈L:=fun q hq=>by obtain ⟨k,_,h1⟩:=X3 L ks q hq; exact Js h1
 refine ⟨h.os,h.tape,h.output,h.size,h.same,fun p hp=>h.own p (cR p hp),fun p hp=>h.fresh p (cR p hp),?_⟩
 have hn:=h.nodup
 clear cR h
 induction ks with
 | nil=>simp [Zq,ak]
 | cons k r ih=>
  simp only [xw,LJ,List.all_eq_true,Bool.not_eq_true'] at hk
  simp only [Zq]
  split
  · rename_i q hq
    rw [Qs]
    split
    · rename_i hr
      refine List.nodup_cons.2 ⟨fun hm=>?_,ih hk.2⟩
      obtain ⟨b,hb,hbr⟩:=JD.1 hm
      obtain ⟨j,hj,ZY⟩:=X3 L r _ hb
      have bO:=hk.1 j hj
      obtain ⟨q1,q2⟩:=q
      rcases Nat.lt_trichotomy k j with aX | heq | hgt
      · exact X2 L k j q1 q1 q2 b hn hq ZY hr hbr aX rfl
      · subst heq; simp at bO
      · exact X2 L j k q1 q1 b q2 hn ZY hq hbr hr hgt rfl
    · exact ih hk.2
  · exact ih hk.2
theorem VR{p:Tg}{cap es:Nat}(hp:cap≠0→∀ a,p=some a→a.spot=none):bP p cap 0 es=p:=by
 by_cases h:cap=0
 · unfold bP; rw [LI h]
 · exact XW (hp h)
theorem XX{p:Tg}{cap l es:Nat}(h:cap≠l→∀ a,p=some a→a.spot=none){ad:Addr}(hs:cap≠l)(e:bP p cap l es=some ad):ad.spot=none:=by
 unfold bP at e
 rw [LH hs] at e
 cases p with
 | none=>cases e
 | some a=>simp at e; rw [← e]
theorem Rd.BZ{w:World}{p:Tg}{bs:Th}(h:Rd w p (bs.flatMap Jk))(m:Nat):Rd w p ((bs.take m).flatMap Jk):=
 Rd.pre h (fun j v hj=>by rw [YV,LF] at hj; rw [YV]; split at hj; exact hj; cases hj) (fun e=>by subst e; rw [vK (show bs.flatMap Jk=[] from h)]; simp)
theorem iO{P:Program}{T n e es:Nat}(h:qj P T=some (n,e,es)):P.underlying T=some (.array n e)∧∃ i,P.info? e=some i∧i.size=es:=by
 unfold qj at h
 cases hu:P.underlying T with
 | none=>simp [hu] at h
 | some d=>
  cases d <;> simp [hu] at h
  rename_i n' e'
  cases hi:P.info? e' with
  | none=>simp [hi] at h
  | some i=>
   simp [hi] at h
   obtain ⟨rfl,rfl,h2⟩:=h
   exact ⟨rfl,i,hi,h2⟩
section
variable {P:Program}{md:Md}{w:World}{n:Nat}{D:List Deferred}{S:Tk}{dst:Option Tmp}{ty:TypeId}{pos:String}{af:Array Edge}{g:Option (Nat×Bool)}
theorem JO{T an e es:Nat}{x y:Operand}{m off:Nat}{k':IntKind}{j:Int}(hx:ev S x=some (.pointer (some ⟨m,off,none⟩)))(hy:ev S y=some (.int k' j))(hT:qj P T=some (an,e,es))(h0:0≤j)(h1:j<an) :
 ∀ a,Fr a n D S→Yl P md w a ⟨dst,.indexAddr T x y,ty,pos,af,g⟩ (.pointer (some ⟨m,off+j.toNat*es,none⟩)):=fun a hf u _=>by
 obtain ⟨hu,i,hi,hs⟩:=iO hT
 have hsz:(sizeOf e).run P u=.ok es u:=by simp [sizeOf,typeInfo,hi,hs]
 have lu:(⟨m,off,none⟩:Addr).add (j.toNat*es)=⟨m,off+j.toNat*es,none⟩:=by
  unfold Addr.add; split
  · rename_i h; rw [h]; simp
  · simp
 simp [execOp,hf.eval hx,hf.eval hy,Instr.indexAt,asIntOf,JC hu,Instr.sureAddr,h0,h1,hsz,lu]
end
theorem Acc.ptr{e es n cap g:Nat}{b:ag}{p:Tg}{cells:Ti}(h:Acc e es p n cap cells g b)(hn:0<n):p=some ⟨g,0,none⟩:=by
 rcases h.cases' with ⟨h1,_,_⟩ | ⟨l,h2,_⟩
 · omega
 · exact h2
theorem gA:∀ (L:Tf) (k n:Nat) (b x:ag),aR L k=some (n,b)→Qr L k x=QQ L k (n,x)
 | [],_,_,_,_,_=>rfl
 | (m,d)::r,0,n,b,x,h=>by simp only [aR,Option.some.injEq,Prod.mk.injEq] at h; obtain ⟨rfl,_⟩:=h; rfl
 | (m,d)::r,k+1,n,b,x,h=>by simp only [aR] at h; simp only [Qr,QQ,gA r k n b x h]
theorem Acc.store{e es g n cap i:Nat}{b:ag}{p:Tg}{cells vs:Ti}{w0 w:World}{X:Bs}{L:Tf}{P:Program}{T:TypeId}{v:Value}(ha:Acc e es p n cap cells g b)(hm:Mem w0 w X L)(j:Nat)(hj:aR L j=some (g,b))(hi:i<n)
 (hc:v.cells=⟨vs⟩) (hs:gj P T=some vs.length) (hl:vs.length=es) (h1:vs.all (·.oneCell')=true) :
 ∃ b' w',(storeVar T ⟨g,0+i*es,none⟩ v).run P w=.ok () w'∧Acc e es p n cap (aU cells (i*es) vs) g b'∧Mem w0 w' X (QQ L j (g,b'))∧b'.real=b.real∧Ext (fun k=>k=g) w w':=by
 rcases ha.cases' with ⟨h2,_,_⟩ | ⟨l,rfl,rfl,vo,r5,oP⟩
 · omega
 · have hle:(i+1)*es≤n*es:=Lr _ hi
   have RP:n*es≤cap*es:=Lr _ vo
   rw [Nat.succ_mul] at hle
   have bL:=ha.len
   refine ⟨.row e (aU l (i*es) vs),_,Vg (off:=0+i*es) hc hs h1 (by simp only [Nat.ble_eq]; omega) (hm.get hj),⟨by rw [Q2,bL],.inr ⟨_,rfl,rfl,vo,by rw [Q2,r5],?_⟩⟩,?_,rfl,?_⟩
   · rw [QT vs l _ Ta,QT vs cells _ Ta,← oP,List.take_append,List.take_append]
     simp only [Lg,Lc,List.take_take,List.drop_take]
     have e1:min (n*es) (i*es)=i*es:=by omega
     have e2:min (i*es) (n*es)=i*es:=by omega
     have e3:min (i*es) l.length=i*es:=by omega
     rw [e1,e2,e3,LZ (l:=vs) Ta]
   · rw [LV,← gA L j g _ _ hj]
     exact Qk hm hj
   · rw [LV]
     refine ⟨rfl,rfl,rfl,by simp [World.setRow],fun k hk bO=>?_⟩
     simp only [World.setRow,Array.getElem?_modify]
     rw [LH (by intro e; exact bO e.symm)]
section
variable {P:Program}{r:Option Nat}{k:Ks}{ops:Array Oper}{md:Md}{n:Nat}{D:List Deferred}{S:Tk}{w:World}{i:Nat}{t:Tr}
variable {ty:TypeId}{pos:String}{af:Array Edge}{g:Option (Nat×Bool)}{dst:Option Tmp}{d:Nat}{w0:World}{X:Bs}{L:Tf}
theorem gB{T e es gg na cap ix:Nat}{x y:Operand}{vs cells:Ti}{v:Value}{b:ag}{p:Tg}(ho:j7 ops S i=some ⟨dst,.store T x y,ty,pos,af,g⟩)(hx:ev S x=some (.pointer (some ⟨gg,0+ix*es,none⟩)))(hy:ev S y=some v)
 (hc:v.cells=⟨vs⟩) (hs:gj P T=some vs.length) (h1:vs.all (·.oneCell')=true) (hl:vs.length=es) (ha:Acc e es p na cap cells gg b) (oQ:ix<na) (hm:Mem w0 w X L) (j:Nat) (hj:aR L j=some (gg,b))
 (h:∀ b' w',Acc e es p na cap (aU cells (ix*es) vs) gg b'→Mem w0 w' X (QQ L j (gg,b'))→HR P r k ops none n D S t w'):HR P r k ops none n D S (.act i t) w:=by
 obtain ⟨b',w',aN,vE,vF,_⟩:=ha.store (P:=P) (T:=T) hm j hj oQ hc hs hl h1
 refine oK (w':=w') ho rfl (fun a hf=>?_) trivial (h b' w' vE vF)
 rw [LV] at aN
 simp [execOp,hf.eval hx,hf.eval hy,Instr.storeAt,Instr.sureAddr,aN]
end
theorem Rd.lt{w:World}{p:Tg}{cs:Ti}(h:Rd w p cs)(bO:cs≠[]):∀ ad,p=some ad→ad.block<w.heap.size:=fun ad e=>by
 subst e
 obtain ⟨v,r,rfl⟩:=List.exists_cons_of_ne_nil bO
 exact qp (a:=⟨ad.block,ad.off+0,none⟩) (h.2 0 v rfl)
theorem Mem.Mz{w0 w:World}{L:Tf}{p:Tg}{cs:Ti}{m:Nat}{b:ag}(hm:Mem w0 w No L)(hR:Rd w0 p cs)(k:Nat)(hk:aR L k=some (m,b))(hb:b.real=true:=by rfl):cs≠[]→∀ ad,p=some ad→ad.block≠m:=fun h ad e heq=>by
 have h1:=hR.lt h ad e
 have h2:=(hm.fresh _ (Js hk) hb).resolve_left id
 simp only at h2
 omega
theorem aQ.Gd{b w w':World}{Y Z:Bs}(h:aQ (some (b,Y)) w)(hx:Ext Z w w')(hz:∀ k,Z k→Y k):aQ (some (b,Y)) w':=Ext.trans h (hx.mono hz)
end Go.Cx
namespace Go.Cx
open Go
section
variable {P:Program}{w:World}
theorem Acc.B0{T e es bs:Nat}{R:Sem Value}{p:Tg}{n cap m g:Nat}{b:ag}{cells new z:Ti}{w0:World}{X:Bs}{L:Tf}(cV:z.length=es)(h1:new.all (·.oneCell')=true)(bR:new.length=m*es)(ha:Acc e es p n cap cells g b)(hm:Mem w0 w X L)(j:Nat)(hj:aR L j=some (g,b))
 (b7:n+m≤cap→R.run P w=(match p with | some a=>(storeCells (a.add (n*es)) new).run P w | none=>.ok () w).andThen fun _ w'=>.ok (.slice p (n+m) cap) w')
 (gy:cap<n+m→R.run P w=.ok (.slice (some ⟨w.heap.size,0,none⟩) (n+m) (Qa w (n+m) cap e)) (w.drew.alloc (ag.row e (cells++new++(Builtin.zeroCells ⟨z⟩ (Qa w (n+m) cap e-(n+m))).toList)).Jd)) :
 ∃ p' aV g' b' w',R.run P w=.ok (.slice p' (n+m) aV) w'∧Acc e es p' (n+m) aV (cells++new) g' b'∧Mem w0 w' X (QQ L j (g',b')) ∧
  Ext (fun k=>b.real=true∧k=g) w w'∧(g'=g∧b'.real=b.real∨w.heap.size≤g'):=by
 have hlen:(cells++new).length=(n+m)*es:=by rw [Lc,ha.len,bR,Kh]
 have lq:∀ (L:Tf) (k:Nat) (q:Nat×ag),aR L k=some q→QQ L k q=L:=fun L=>by
  induction L with
  | nil=>intro k q h; simp [aR] at h
  | cons x r ih=>
   intro k q h
   cases k with
   | zero=>simp only [aR,Option.some.injEq] at h; subst h; rfl
   | succ k=>simp only [QQ,ih k q h]
 have BJ:∀ (L:Tf) (k n:Nat) (b x:ag),aR L k=some (n,b)→Qr L k x=QQ L k (n,x):=fun L=>by
  induction L with
  | nil=>intro k n b x h; rfl
  | cons y r ih=>
   intro k n b x h
   obtain ⟨m,d⟩:=y
   cases k with
   | zero=>simp only [aR,Option.some.injEq,Prod.mk.injEq] at h; obtain ⟨rfl,_⟩:=h; rfl
   | succ k=>simp only [aR] at h; simp only [Qr,QQ,ih k n b x h]
 by_cases hle:n+m≤cap
 · have aN:=b7 hle
   rcases ha.cases' with ⟨h2,h3,h4⟩ | ⟨l,rfl,rfl,vo,hl,oP⟩
   · have ar:m=0:=by omega
     subst h2 h3 ar
     have BK:new=[]:=Ll.1 (by rw [bR]; simp)
     have sB:cells=[]:=Ll.1 (by rw [ha.len]; simp)
     subst BK sB h4
     refine ⟨p,0,g,.gap,w,?_,⟨Tc,.inl ⟨rfl,rfl,rfl⟩⟩,by rw [lq L j _ hj]; exact hm,Ext.refl _ _,.inl ⟨rfl,rfl⟩⟩
     rw [aN]
     cases p <;> simp [storeCells]
   · have hg:=hm.get hj
     have cF:=run_storeCells_at P g (n*es) e new 0 ⟨l⟩ w hg (by simp only [Nat.add_zero,bR,List.size_toArray]; rw [hl,← Kh]; exact Lr _ hle) (by simpa using h1)
     simp only [Nat.add_zero] at cF
     have lu:(⟨g,0,none⟩:Addr).add (n*es)=⟨g,n*es,none⟩:=by
      unfold Addr.add; split
      · rename_i h0; rw [h0]
      · simp
     refine ⟨some ⟨g,0,none⟩,cap,g,.row e (l.take (n*es)++new++l.drop (n*es+new.length)),_,by rw [aN]; simp only [lu,cF]; rfl,⟨hlen,.inr ⟨_,rfl,rfl,hle,?_,?_⟩⟩,?_,?_,.inl ⟨rfl,rfl⟩⟩
     · have:n*es+new.length≤l.length:=by rw [bR,hl,← Kh]; exact Lr _ hle
       simp only [Lc,Lg,Lm]
       omega
     · rw [oP,← hlen]
       exact Kj
     · have:=Qk (l':=l.take (n*es)++new++l.drop (n*es+new.length)) hm hj
       rw [BJ L j g _ _ hj] at this
       exact this
     · refine ⟨rfl,rfl,rfl,by simp [World.setRow],fun k hk bO=>?_⟩
       simp only [World.setRow,Array.getElem?_modify]
       rw [LH]
       intro e; subst e
       exact bO ⟨rfl,rfl⟩
 · have aX:cap<n+m:=by omega
   have aN:=gy aX
   refine ⟨_,_,w.heap.size,.row e (cells++new++(Builtin.zeroCells ⟨z⟩ (Qa w (n+m) cap e-(n+m))).toList),_,aN,⟨hlen,.inr ⟨_,rfl,rfl,VV _ _ _ _,?_,?_⟩⟩,?_,?_,.inr (LP _)⟩
   · have:(Builtin.zeroCells ⟨z⟩ (Qa w (n+m) cap e-(n+m))).toList.length=(Qa w (n+m) cap e-(n+m))*es:=by
      rw [← cV]; simp [Builtin.zeroCells]
     rw [Lc,hlen,this,← Kh]
     congr 1
     have:=VV w (n+m) cap e
     omega
   · rw [← hlen]; exact Kj
   · exact ((hm.ext (Va w)).alloc (ag.row e (cells++new++(Builtin.zeroCells ⟨z⟩ (Qa w (n+m) cap e-(n+m))).toList))).lay j hj
   · exact ((Va w).trans (Qx _ _)).mono fun _ h=>h.elim
theorem zl{T:TypeId}{k:IntKind}(h:kS P T=some k):P.underlying T=some (.int k):=by
 unfold kS at h
 cases hu:P.underlying T with
 | none=>simp [hu] at h
 | some d=>cases d <;> simp [hu] at h; subst h; rfl
theorem Yf(z:Ti)(n:Nat):Builtin.zeroCells ⟨z⟩ n=⟨Qn z n⟩:=kZ z n
theorem lE:∀ (z:Ti) (n:Nat),z.all (·.oneCell')=true→(Qn z n).all (·.oneCell')=true
 | _,0,_=>rfl
 | z,n+1,h=>by simp only [Qn,List.all_append,h,lE z n h,Bool.and_self]
theorem sJ{T e es bs:Nat}{ts:Array TypeId}{ty:TypeId}{p:Tg}{n cap m:Nat}{k k':IntKind}{cells:Ti}{z:Ti}(hT:QH P T=some (e,es,bs))(dU:ts[0]?=some T){T2:TypeId}(dQ:ts[1]?=some T2)(oO:kS P T2=some k)
 (hz:iF P e=some z) (cV:z.length=es) (hp:Rd w p cells) (hc:cells.length=n*es) (hb:(n+m)*bs≤140737488355328) (rX:n+m<2 ^ 63) :
 (n+m≤cap→(Builtin.append_ ts ty #[.slice p n cap,.int k' m]).run P w=(match p with | some a=>(storeCells (a.add (n*es)) (Qn z m)).run P w | none=>.ok () w).andThen fun _ w'=>.ok (.slice p (n+m) cap) w') ∧
 (cap<n+m→(Builtin.append_ ts ty #[.slice p n cap,.int k' m]).run P w =
  .ok (.slice (some ⟨w.heap.size,0,none⟩) (n+m) (Qa w (n+m) cap e)) (w.drew.alloc (ag.row e (cells++Qn z m++(Builtin.zeroCells ⟨z⟩ (Qa w (n+m) cap e-(n+m))).toList)).Jd)):=by
 obtain ⟨hu,i,hi,hsz,BI⟩:=Qq hT
 have RF:=zl oO
 obtain ⟨zv,ql,kV⟩:=XH (w:=w.drew) hz
 have fO:i.zero=some zv:=by
  unfold iF at hz
  cases fO:i.zero with
  | none=>simp [hi,fO] at hz
  | some v=>
   have:(zeroValue e).run P w.drew=.ok v w.drew:=by simp [zeroValue,typeInfo,hi,fO]
   rw [this] at ql; cases ql; rfl
 have zf:∀ u:World,(zeroValue e).run P u=.ok zv u:=fun u=>by simp [zeroValue,typeInfo,hi,fO]
 have gw:∀ u:World,(typeInfo e).run P u=.ok i u:=fun u=>by simp [typeInfo,hi]
 have hpf:=Q4 (P:=P) (w:=w.drew) (len:=n) (cap:=cap) (hp.Jj (Ext.drew w)) hc
 have er:∀ u:World,(sizeOf e).run P u=.ok es u:=fun u=>by simp [sizeOf,gw,hsz]
 have Gg:∀ u:World,(asInt (.int k' (m:Int))).run P u=.ok (m:Int) u:=fun u=>by simp [asInt,asIntOf]
 have hw:IntKind.i64.wrap (m:Int)=m:=Ql Ta Ta
 have hmb:m*bs≤(n+m)*bs:=Lr _ Ta
 have Fx:¬ ((m:Int)<0):=by omega
 have sK:¬ ((m:Int)*(i.bytes:Int)>2 ^ 48):=by
  rw [BI]
  have:((m*bs:Nat):Int)=(m:Int)*bs:=by simp
  rw [← this]
  omega
 have RQ:∀ u:World,((if m*es=0 then (pure #[]:Sem (Array Value)) else do pure (Builtin.zeroCells (← zeroValue e).cells m))).run P u=.ok ⟨Qn z m⟩ u:=fun u=>by
  by_cases h0:m*es=0
  · have:Qn z m=[]:=Ll.1 (by rw [Qg,cV]; exact h0)
    simp [h0,this]
  · simp [h0,zf u,kV,Yf]
 refine ⟨fun hle=>?_,fun aX=>?_⟩
 · unfold Builtin.append_
   simp only [dU,dQ,List.getElem?_toArray,L2,LW,Sem.run_bind,JC hu,JC RF,Result.andThen_ok,er,Sem.run_pure,if_true,Gg,hw,Fx,sK,if_false,gw,hle,LD,Bool.not_true,L0,RQ]
   cases p with
   | none=>simp
   | some a=>simp
 · have hn:¬ n+m≤cap:=by omega
   have hg:¬ (Builtin.nextslicecap (n+m) cap*i.bytes>2 ^ 48):=by
    have:=growslice_fits (bytes:=i.bytes) aX (by rw [BI]; exact hb)
    simpa using this
   have fy:¬ (((n+m:Nat):Int)>IntKind.i64.max∧(True∨i.bytes=0)):=by
    intro ⟨h1,_⟩
    have:IntKind.i64.max=9223372036854775807:=rfl
    rw [this] at h1
    omega
   unfold Builtin.append_
   simp only [dU,dQ,List.getElem?_toArray,L2,LW,Sem.run_bind,JC hu,JC RF,Result.andThen_ok,er,Sem.run_pure,if_true,Gg,hw,Fx,sK,if_false,gw,hn,LD,Bool.not_true,L0,Sem.run_ite,fy,hg]
   have vn:(choose (.appendCap (n+m) cap e)).run P w=.ok (Qa w (n+m) cap e) w.drew:=by
    simp [Question.forced,Qa,Question.cut]
   have F8:∀ (cs:Array Value) (u:World),(newRow e cs).run P u=.ok ⟨u.heap.size,0,none⟩ (u.alloc (.cells cs e)):=fun cs u=>by simp [newRow]
   have jcl:=RQ w.drew
   simp only [vn,Result.andThen_ok,run_askRoom,hpf,zf,kV,F8,ag.Jd]
   by_cases h0:m*es=0
   · have h9:Qn z m=[]:=Ll.1 (by rw [Qg,cV]; exact h0)
     simp [h0,h9,zf,kV]
     congr 1
     congr 1
     apply Array.ext'
     simp
   · simp [h0,zf,kV,Yf]
theorem run_mk{T e es bs:Nat}{k k':IntKind}{l c:Nat}{z:Ti}{u:World}(hT:QH P T=some (e,es,bs))(hz:iF P e=some z)(cV:z.length=es)(Gh:l≤c)(hb:c*bs≤140737488355328)(hc:c≤4611686018427387903) :
 (Instr.makeSlice T (.int k l) (.int k' c)).run P u=.ok (.slice (some ⟨u.heap.size,0,none⟩) l c) (u.alloc (ag.row e (Qn z c)).Jd):=by
 obtain ⟨hu,i,hi,hsz,BI⟩:=Qq hT
 obtain ⟨zv,ql,kV⟩:=XH (w:=u) hz
 have gw:∀ u:World,(typeInfo e).run P u=.ok i u:=fun u=>by simp [typeInfo,hi]
 have er:∀ u:World,(sizeOf e).run P u=.ok es u:=fun u=>by simp [sizeOf,gw,hsz]
 have Gg:∀ (k:IntKind) (m:Nat) (u:World),(asInt (.int k (m:Int))).run P u=.ok (m:Int) u:=fun k m u=>by simp [asInt,asIntOf]
 have vM:IntKind.i64.wrap (l:Int)=l:=Ql Ta Ta
 have RR:IntKind.i64.wrap (c:Int)=c:=Ql Ta Ta
 have F8:∀ (cs:Array Value) (u:World),(newRow e cs).run P u=.ok ⟨u.heap.size,0,none⟩ (u.alloc (.cells cs e)):=fun cs u=>by simp [newRow]
 have IW:(decide ((c:Int)<0)||decide ((bs:Int)*(c:Int)>2 ^ 48))=false:=by
  rw [LS,decide_eq_false_iff_not,decide_eq_false_iff_not]
  have:((bs*c:Nat):Int)=(bs:Int)*c:=by simp
  rw [← this,Nat.mul_comm]
  omega
 have MA:(decide ((l:Int)<0))=false:=LN Ta
 have jag:(decide ((l:Int)>(c:Int)))=false:=LN Ta
 unfold Instr.makeSlice
 simp only [Sem.run_bind,JC hu,Result.andThen_ok,Gg,gw,vM,RR,BI,IW,MA,jag,Bool.or_self,L0,if_false,run_askRoom,er,LD,Sem.run_pure]
 by_cases h0:c*es=0
 · have h9:Qn z c=[]:=Ll.1 (by rw [Qg,cV]; exact h0)
   simp [h0,h9,F8,ag.Jd]
   congr 2
   apply Array.ext'
   simp
 · have Ml:((Array.range (c*es)).map ((⟨z⟩:Array Value)[· % (⟨z⟩:Array Value).size]!))=⟨Qn z c⟩:=by rw [← kZ z c,cV]
   simp only [h0,if_false,Sem.run_bind,ql,Result.andThen_ok,kV,Sem.run_pure,Ml,F8,ag.Jd]
theorem B3{T e es bs:Nat}{ts:Array TypeId}{ty:TypeId}{g o dl dc sl sc:Nat}{q:Tg}{l src:Ti}(hT:QH P T=some (e,es,bs))(dU:ts[0]?=some T)(hg:w.heap[g]?=some (ag.row e l).Jd)(b7:o+dl*es≤l.length)(hq:Rd w q src)(hs:src.length=min sl dl*es)(h1:src.all (·.oneCell')=true) :
 (Builtin.copy_ ts ty #[.slice (some ⟨g,o,none⟩) dl dc,.slice q sl sc]).run P w=.ok (.int .i64 (min sl dl:Nat)) (w.setRow g ⟨aU l o src⟩):=by
 obtain ⟨hu,i,hi,hsz,BI⟩:=Qq hT
 have er:∀ u:World,(sizeOf e).run P u=.ok es u:=fun u=>by simp [sizeOf,typeInfo,hi,hsz]
 have hf:=Q4 (P:=P) (len:=sl) (cap:=sc) hq hs
 have B4:Nat.min sl dl=min sl dl:=rfl
 have hle:o+src.length≤l.length:=by
  rw [hs]
  have:min sl dl*es≤dl*es:=Lr _ (Nat.min_le_right _ _)
  omega
 have cF:=run_storeCells_at P g o e src 0 ⟨l⟩ w hg (by simpa using hle) (by simpa using h1)
 simp only [Nat.add_zero] at cF
 rw [← QT src l o hle] at cF
 unfold Builtin.copy_
 simp only [dU,List.getElem?_toArray,L2,LW,Sem.run_bind,JC hu,Result.andThen_ok,er,Sem.run_pure,Builtin.lenOf,hf,cF,B4]
 rfl
theorem zm{T e es bs:Nat}{ts:Array TypeId}{ty:TypeId}{dl dc sl sc:Nat}{p q:Tg}(hT:QH P T=some (e,es,bs))(dU:ts[0]?=some T)(hq:Rd w q [])(h0:min sl dl=0)(hp:p=none∨∃ ad,p=some ad) :
 (Builtin.copy_ ts ty #[.slice p dl dc,.slice q sl sc]).run P w=.ok (.int .i64 0) w:=by
 obtain ⟨hu,i,hi,hsz,BI⟩:=Qq hT
 have er:∀ u:World,(sizeOf e).run P u=.ok es u:=fun u=>by simp [sizeOf,typeInfo,hi,hsz]
 have hf:=Q4 (P:=P) (es:=es) (m:=0) (len:=sl) (cap:=sc) hq Tc
 have B4:Nat.min sl dl=0:=h0
 unfold Builtin.copy_
 simp only [dU,List.getElem?_toArray,L2,LW,Sem.run_bind,JC hu,Result.andThen_ok,er,Sem.run_pure,Builtin.lenOf,hf,B4]
 cases p with
 | none=>simp [goInt]
 | some a=>simp [goInt,storeCells]
end
section
variable {P:Program}{r:Option Nat}{k:Ks}{ops:Array Oper}{md:Md}{n:Nat}{D:List Deferred}{S:Tk}{w:World}{i:Nat}{t:Tr}
variable {ty:TypeId}{pos:String}{af:Array Edge}{g:Option (Nat×Bool)}{dst:Option Tmp}{d:Nat}{w0:World}{X:Bs}{L:Tf}
theorem oR{T e es bs:Nat}{s x:Operand}{ts:Array TypeId}{p:Tg}{na cap m gg:Nat}{b:ag}{k1 k2:IntKind}{cells z:Ti}{T2:TypeId}
 (ho:eL ops S i=some (⟨dst,.call ⟨.builtin .append,#[s,x],ts⟩,ty,pos,af,g⟩,d)) (hd:Nat.blt d n=true) (hs:ev S s=some (.slice p na cap)) (hx:ev S x=some (.int k1 m)) (dU:ts[0]?=some T) (dQ:ts[1]?=some T2)
 (hT:QH P T=some (e,es,bs)) (oO:kS P T2=some k2) (hz:iF P e=some z) (cV:z.length=es) (h1:z.all (·.oneCell')=true) (ha:Acc e es p na cap cells gg b)
 (hm:Mem w0 w X L) (j:Nat) (hj:aR L j=some (gg,b)) (hb:(na+m)*bs≤140737488355328) (rX:na+m<2 ^ 63)
 (h:∀ p' aV g' b' w',Acc e es p' (na+m) aV (cells++Qn z m) g' b'→Mem w0 w' X (QQ L j (g',b'))→HR P r k ops none n D ((d,.slice p' (na+m) aV)::S) t w'):HR P r k ops none n D S (.act i t) w:=by
 obtain ⟨b7,gy⟩:=sJ (w:=w) (cap:=cap) (k':=k1) (ty:=ty) hT dU dQ oO hz cV (ha.rd hm j hj) ha.len hb rX
 obtain ⟨p',aV,g',b',w',aN,vE,vF,_⟩:=Acc.B0 (T:=T) (bs:=bs) cV (lE z m h1) (by rw [Qg,cV]) ha hm j hj b7 gy
 refine Vv ho hd rfl (fun a hf=>?_) trivial (h p' aV g' b' w' vE vF)
 simp only [execOp,resolve,List.map_toArray,Ka,List.map_nil,hf.eval hs,hf.eval hx,Sem.run_bind,Sem.run_pure,Result.andThen_ok,invoke,builtin,aN]
theorem vN{T e es bs l c:Nat}{x y:Operand}{k1 k2:IntKind}{z:Ti}(ho:eL ops S i=some (⟨dst,.makeSlice T x y,ty,pos,af,g⟩,d))(hd:Nat.blt d n=true)(hx:ev S x=some (.int k1 l))(hy:ev S y=some (.int k2 c))
 (hT:QH P T=some (e,es,bs)) (hz:iF P e=some z) (cV:z.length=es) (Gh:l≤c) (hb:c*bs≤140737488355328) (hc:c≤4611686018427387903) (hm:Mem w0 w X L) (hh:aQ md w)
 (h:∀ m w',Ft md m→Acc e es (some ⟨m,0,none⟩) l c (Qn z l) m (.row e (Qn z c))→Mem w0 w' X ((m,.row e (Qn z c))::L)→aQ md w'→HR P r k ops md n D ((d,.slice (some ⟨m,0,none⟩) l c)::S) t w'):HR P r k ops md n D S (.act i t) w:=by
 have oP:∀ (a b:Nat),a≤b→(Qn z b).take (a*z.length)=Qn z a:=fun a=>by
  induction a with
  | zero=>intro b _; simp [Qn]
  | succ a ih=>
   intro b nY
   obtain ⟨b,rfl⟩:∃ b',b=b'+1:=⟨b-1,Ta⟩
   simp only [Qn]
   rw [Nat.succ_mul,Nat.add_comm,List.take_append,LZ Ta,Kk,ih b Ta]
 have MB:Acc e es (some ⟨w.heap.size,0,none⟩) l c (Qn z l) w.heap.size (.row e (Qn z c)):=⟨by rw [Qg,cV],.inr ⟨_,rfl,rfl,Gh,by rw [Qg,cV],by rw [← cV]; exact oP l c Gh⟩⟩
 refine Vv (v:=.slice (some ⟨w.heap.size,0,none⟩) l c) (w':=w.alloc (ag.row e (Qn z c)).Jd) ho hd rfl (fun a hf=>?_) (hh.ext (Qx _ _)) (h _ _ hh.geq MB (hm.alloc _) (hh.ext (Qx _ _)))
 simp only [execOp,hf.eval hx,hf.eval hy,Sem.run_bind,run_mk hT hz cV Gh hb hc,Result.andThen_ok,Sem.run_pure]
end
section
variable {P:Program}{md:Md}{w:World}{n:Nat}{D:List Deferred}{S:Tk}{dst:Option Tmp}{ty:TypeId}{pos:String}{af:Array Edge}{g:Option (Nat×Bool)}
theorem IX{t:TypeId}{x:Operand}{p:Tg}{l c:Nat}{ts:Array TypeId}{e:TypeId×Nat×Nat}(hx:ev S x=some (.slice p l c))(dU:ts[0]?=some t)(ht:QH P t=some e) :
 ∀ a,Fr a n D S→Yl P md w a ⟨dst,.call ⟨.builtin .cap,#[x],ts⟩,ty,pos,af,g⟩ (.int .i64 c):=fun a hf u _=>by
 obtain ⟨e1,e2,e3⟩:=e
 obtain ⟨hu,_⟩:=Qq ht
 simp [execOp,resolve,hf.eval hx,invoke,builtin,Builtin.cap_,dU,JC hu,goInt]
end
end Go.Cx
namespace Go.Pl
abbrev aA(x:Int):Prop:=-9223372036854775808≤x∧x≤9223372036854775807
abbrev mx:Int:=4611686018427387903
def valid(o l:Int):Bool:=decide (0≤o∧0≤l∧l≤4611686018427387903-o)
theorem Xk{o l:Int}:valid o l=true↔0≤o∧0≤l∧l≤4611686018427387903-o:=by simp [valid]
theorem gC{o l:Int}(h:valid o l=true):0≤o∧0≤l∧o+l≤4611686018427387903:=by have:=Xk.1 h; omega
theorem YB{o l:Int}(h:0≤o∧0≤l∧o+l≤4611686018427387903):valid o l=true:=Xk.2 Ta
def zn(lo hi least:Int):Option (Int×Int):=if hi-lo<least then none else some (lo,hi-lo)
def aL(a b c d:Int):Option (Int×Int):=zn (max a c) (min (a+b) (c+d)) 1
def joined(a b c d:Int):Option (Int×Int):=if (zn (max a c) (min (a+b) (c+d)) 0).isSome then zn (min a c) (max (a+b) (c+d)) 0 else none
def within(a b c d:Int):Bool:=decide (a≤c∧c+d≤a+b)
def idx{α:Type}(p:α→Bool)(xs:List α):Int:=match xs.findIdx? p with | some i=>i | none=>-1
theorem lF{α:Type}(p:α→Bool)(xs:List α):decide (0≤idx p xs)=xs.any p:=by
 unfold idx
 cases h:xs.findIdx? p with
 | none=>rw [List.findIdx?_eq_none_iff] at h; simp; intro x hx; simpa using h x hx
 | some i=>
  have h':(xs.findIdx? p).isSome=true:=by rw [h]; rfl
  rw [List.findIdx?_isSome] at h'
  simp [h']
theorem X8{α:Type}{p:α→Bool}{xs:List α}{k:Nat}{x:α}(hx:xs[k]?=some x)(hp:p x=true)(hb:∀ (j:Nat) (y:α),j<k→xs[j]?=some y→p y=false):idx p xs=k:=by
 unfold idx
 have:xs.findIdx? p=some k:=by
  rw [List.findIdx?_eq_some_iff_getElem]
  obtain ⟨h1,h2⟩:=Le.1 hx
  exact ⟨h1,by rw [h2]; exact hp,fun j hj=>by simp [hb j _ hj (La Ta)]⟩
 rw [this]
theorem YN{α:Type}{p:α→Bool}{xs:List α}(hb:∀ (j:Nat) (y:α),j<xs.length→xs[j]?=some y→p y=false):idx p xs=-1:=by
 unfold idx
 have:xs.findIdx? p=none:=by
  rw [List.findIdx?_eq_none_iff]
  intro x hx
  obtain ⟨j,hj,e⟩:=LU hx
  simpa using hb j x hj (by rw [← e]; exact La hj)
 rw [this]
def total:Int→Tl→Option Int
 | n,[]=>some n
 | n,e::r=>if 4611686018427387903<n+e.2 then none else total (n+e.2) r
def ZZ(e:Int×Int):Prop:=0≤e.1∧0≤e.2∧e.1+e.2≤4611686018427387903
theorem drop_cons{α:Type}{xs:List α}{k:Nat}{x:α}(h:xs[k]?=some x):xs.drop k=x::xs.drop (k+1):=by
 obtain ⟨h1,h2⟩:=Le.1 h
 rw [List.drop_eq_getElem_cons h1,h2]
def piece(o l size:Int)(i:Nat):Int×Int:=(o+i*size,min size (l-i*size))
def pieces(l size:Int):Int:=if size<1∨l=0∨1048576≤(l-1)/size then 0 else (l-1)/size+1
def rest(o l size:Int)(i:Nat):Int×Int:=(min (o+i*size) (o+l),max (l-i*size) 0)
theorem Y4{o l size:Int}(h:0≤l):rest o l size 0=(o,l):=by
 simp only [rest,Prod.mk.injEq]; constructor <;> omega
theorem lG(o l size:Int)(i:Nat):(rest o l size i).1+(rest o l size i).2=o+l∧0≤(rest o l size i).2:=by
 simp only [rest]; generalize (i:Int)*size=q; omega
theorem qu{o l size:Int}{i:Nat}(hs:1≤size)(h:0≤l):o≤(rest o l size i).1∧(rest o l size i).2≤l:=by
 have hq:0≤(i:Int)*size:=Int.mul_nonneg Ta Ta
 simp only [rest]; revert hq; generalize (i:Int)*size=q; omega
theorem Y5{o l size:Int}{i:Nat}:0<(rest o l size i).2↔(i:Int)*size<l:=by
 simp only [rest]; generalize (i:Int)*size=q; omega
theorem Zz{o l size:Int}{i:Nat}(h:0<(rest o l size i).2):piece o l size i=((rest o l size i).1,min size (rest o l size i).2):=by
 have:=Y5.1 h
 simp only [rest,piece,Prod.mk.injEq]; revert this; generalize (i:Int)*size=q; intro h; constructor <;> omega
theorem iP{o l size:Int}{i:Nat}(hs:1≤size)(h:0<(rest o l size i).2) :
 rest o l size (i+1)=((rest o l size i).1+min size (rest o l size i).2,(rest o l size i).2-min size (rest o l size i).2):=by
 have:=Y5.1 h
 have e:((i+1:Nat):Int)*size=i*size+size:=by rw [Int.natCast_add,Int.add_mul]; simp
 simp only [rest,Prod.mk.injEq,e]; revert this; generalize (i:Int)*size=q; intro h; constructor <;> omega
theorem sL{o l size:Int}{i:Nat}(hs:1≤size)(h:0<(rest o l size i).2):(i:Int)≤(l-1)/size:=
 Int.le_ediv_of_mul_le Ta (by have:=Y5.1 h; omega)
theorem zo{o l size:Int}{i:Nat}(hs:1≤size)(hl:0<l)(hb:(l-1)/size<1048576)(h0:(rest o l size i).2=0)(hp:∀ j,j<i→0<(rest o l size j).2):(i:Int)=pieces l size:=by
 have hi:i≠0:=fun e=>by subst e; rw [Y4 Ta] at h0; simp at h0; omega
 obtain ⟨j,rfl⟩:=Nat.exists_eq_succ_of_ne_zero hi
 simp only [Nat.succ_eq_add_one] at h0 hp hi
 have h1:=sL hs (hp j (Nat.lt_succ_self _))
 have h2:¬ ((j+1:Nat):Int)*size<l:=fun h=>by have:=(Y5 (o:=o)).2 h; omega
 have e:((j+1:Nat):Int)*size=(j+1:Int)*size:=by simp
 have h3:(l-1)/size<(j+1:Int):=Int.ediv_lt_of_lt_mul Ta (by rw [e] at h2; omega)
 unfold pieces
 rw [LH Ta]
 simp only [Nat.succ_eq_add_one,Int.natCast_add,Int.natCast_one]
 omega
theorem jah{α:Type}{p:α→Bool}{xs:List α}(h:∀ (j:Nat) (y:α),j<xs.length→xs[j]?=some y→p y=true):xs.all p=true:=by
 rw [List.all_eq_true]
 intro x hx
 obtain ⟨j,hj,e⟩:=LU hx
 exact h j x hj (by rw [← e]; exact La hj)
theorem MC{α:Type}{p:α→Bool}{xs:List α}{k:Nat}{x:α}(hx:xs[k]?=some x)(hp:p x=false):xs.all p=false:=by
 rw [List.all_eq_false]
 exact ⟨x,Ld hx,by simp [hp]⟩
theorem IY{α:Type}{xs ys:List α}(hl:xs.length=ys.length)(h:∀ (j:Nat),j<xs.length→xs[j]?=ys[j]?):xs=ys:=by
 apply Kb
 intro j
 by_cases hj:j<xs.length
 · exact h j hj
 · rw [L8 Ta,L8 Ta]
theorem lH{b c:Int}{k:Nat}(hb:0≤b)(h:(k:Int)<pieces b c):1≤c∧0<b∧(k:Int)*c<b∧0≤(k:Int)*c:=by
 unfold pieces at h
 split at h
 · omega
 · rename_i hn
   have h1:(k:Int)≤(b-1)/c:=by omega
   have h2:=Int.mul_le_of_le_ediv Ta h1
   have h3:0≤(k:Int)*c:=Int.mul_nonneg Ta Ta
   exact ⟨Ta,Ta,Ta,h3⟩
theorem B5{a b c:Int}{n:Nat}(hb:0≤b)(h:(n:Int)=pieces b c):(rest a b c n).1-a=if n=0 then 0 else b:=by
 split
 · rename_i h0; subst h0; rw [Y4 hb]; omega
 · unfold pieces at h
   split at h
   · omega
   · have h1:=Int.lt_ediv_add_one_mul_self (b-1) (show 0<c by omega)
     rw [← h] at h1
     simp only [rest]
     revert h1
     generalize (n:Int)*c=q
     omega
theorem zp{a b c:Int}{n:Nat}(h0:0≤a∧0≤b∧a+b≤4611686018427387903)(h:(n:Int)=pieces b c):∀ x∈(List.range n).map (piece a b c),a≤x.1∧1≤x.2∧x.1+x.2≤a+b:=by
 intro x hx
 obtain ⟨k,hk,rfl⟩:=Ln.1 hx
 obtain ⟨h1,h2,h3,h4⟩:=lH h0.2.1 (show (k:Int)<pieces b c by have:=List.mem_range.1 hk; omega)
 have h5:=(Y5 (o:=a)).2 h3
 have h8:=lG a b c k
 have h9:=qu (o:=a) (i:=k) h1 h0.2.1
 rw [Zz h5]
 simp only
 omega
theorem zq(b c:Int):pieces b c≤1048576:=by
 unfold pieces
 split <;> omega
end Go.Pl
namespace Go.Pl
theorem Xg{x s:Int}(h:0≤x)(hs:1≤s):0≤x/s∧x/s≤x:=⟨Int.ediv_nonneg h Ta,Int.ediv_le_self s h⟩
theorem sO{x y s:Int}(h:x≤y)(hs:1≤s):x/s≤y/s:=Int.ediv_le_ediv Ta h
def slot(s b:Int):Int:=if s<1∨b<1∨b>65536 then 0 else (b+43)/s+1
theorem lI(s b:Int):0≤slot s b∧slot s b≤65580:=by
 unfold slot
 split
 · omega
 · have:=Xg (x:=b+43) (s:=s) Ta Ta; omega
theorem zr(s b:Int):slot s b=0↔s<1∨b<1∨b>65536:=by
 unfold slot
 split
 · rename_i h; simp [h]
 · have:=Xg (x:=b+43) (s:=s) Ta Ta
   rename_i h
   constructor
   · omega
   · intro h'; exact absurd h' h
def ba(b:Int):Int:=if b<0∨b>1048576 then 0 else 40+b+4
def lJ(s a b:Int):Int×Int:=if s<1∨valid a b=false∨b=0 then (0,0) else (a/s,(a+b-1)/s-a/s+1)
theorem B6(s a b:Int):0≤(lJ s a b).2∧(lJ s a b).2≤4611686018427387904∧0≤(lJ s a b).1∧(lJ s a b).1≤4611686018427387904:=by
 unfold lJ
 split
 · simp
 · rename_i h
   have hv:valid a b=true:=by
    cases hh:valid a b with
    | true=>rfl
    | false=>simp [hh] at h
   have:=gC hv
   have h1:=Xg (x:=a) (s:=s) Ta Ta
   have h2:=Xg (x:=a+b-1) (s:=s) Ta Ta
   have h3:=sO (x:=a) (y:=a+b-1) (s:=s) Ta Ta
   simp only
   omega
def gD(x:Int):Bool:=valid 0 x
theorem VU{x:Int}:gD x=true↔0≤x∧x≤4611686018427387903:=by simp only [gD,Xk]; omega
def X7(s b o n:Int):Int:=if slot s b=0 then 20 else if gD o=false∨gD n=false then 2 else 0
def lz(e x:Int):Int:=if e=0 then x else 0
def qv(s o n:Int):Int:=(lJ s 0 (max o n)).2
end Go.Pl
namespace Go.Pl
def RT(v:Int)(k:Nat):UInt8:=UInt8.ofNat (v/256 ^ k%256).toNat
theorem xx(v:Int)(k:Nat):((RT v k).toNat:Int)=v/256 ^ k%256:=by
 unfold RT
 rw [UInt8.toNat_ofNat']
 have h1:=Int.emod_nonneg (v/256 ^ k) (show (256:Int)≠0 by decide)
 have h2:=Int.emod_lt_of_pos (v/256 ^ k) (show (0:Int)<256 by decide)
 generalize v/256 ^ k%256=x at h1 h2
 omega
def be(v:Int):Nat→List UInt8
 | 0=>[]
 | k+1=>RT v k::be v k
theorem YY(v:Int):∀ n,(be v n).length=n
 | 0=>rfl
 | n+1=>by simp [be,YY v n]
def fits(v n:Int):Bool:=decide (1≤n∧n≤8∧v<256 ^ n.toNat)
def num(x:Int):Th→Int
 | []=>x
 | b::r=>num (x*256+b.toNat) r
theorem B7(v:Int)(h:0≤v):∀ (n:Nat) (x:Int),num x (be v n)=x*256 ^ n+v%256 ^ n
 | 0,x=>by simp [num,be]
 | n+1,x=>by
  simp only [be,num]
  rw [B7 v h n,xx,Int.pow_succ]
  have h1:v%(256 ^ n*256)=v%256 ^ n+256 ^ n*(v/256 ^ n%256):=by
   have hp:(0:Int)<256 ^ n:=Int.pow_pos Tb
   have e1:=Int.emod_add_mul_ediv v (256 ^ n*256)
   have e2:=Int.emod_add_mul_ediv v (256 ^ n)
   have e3:=Int.emod_add_mul_ediv (v/256 ^ n) 256
   have e4:v/(256 ^ n*256)=v/256 ^ n/256:=by rw [← Int.ediv_ediv_of_nonneg Ta]
   rw [e4] at e1
   generalize hq:v/256 ^ n/256=q at *
   generalize hr:v/256 ^ n%256=r at *
   rw [← e3,Int.mul_add] at e2
   have e5:(256:Int) ^ n*256*q=256 ^ n*(256*q):=Int.mul_assoc _ _ _
   omega
  rw [h1,Int.add_mul]
  have e5:x*256*256 ^ n=x*(256 ^ n*256):=by rw [Int.mul_assoc,Int.mul_comm 256]
  have e6:v/256 ^ n%256*256 ^ n=256 ^ n*(v/256 ^ n%256):=Int.mul_comm _ _
  omega
theorem kg:∀ (l:Th) (x:Int),0≤x→0≤num x l∧num x l<(x+1)*256 ^ l.length
 | [],x,h=>by simp [num]; omega
 | b::r,x,h=>by
  have hb:b.toNat<256:=UInt8.toNat_lt b
  have:=kg r (x*256+b.toNat) Ta
  simp only [num,Li,Int.pow_succ]
  refine ⟨this.1,Int.lt_of_lt_of_le this.2 ?_⟩
  have hp:(0:Int)≤256 ^ r.length:=Int.le_of_lt (Int.pow_pos Tb)
  have:(x*256+(b.toNat:Int)+1)*256 ^ r.length≤((x+1)*256)*256 ^ r.length:=Int.mul_le_mul_of_nonneg_right Ta hp
  have e:(x+1)*(256 ^ r.length*256)=(x+1)*256*256 ^ r.length:=by rw [Int.mul_assoc (x+1) 256,Int.mul_comm 256]
  omega
theorem xy:∀ (a b:Th) (x:Int),num x (a++b)=num (num x a) b
 | [],_,_=>rfl
 | _::r,b,x=>by simp only [List.cons_append,num]; exact xy r b _
theorem jai{v j:Int}{k:Nat}(hv:0≤v)(hj:j=8*k)(hk:k≤8):v.fdiv (2 ^ (min j.toNat 64))=v/256 ^ k:=by
 have h1:min j.toNat 64=8*k:=by omega
 rw [h1,Int.fdiv_eq_ediv_of_nonneg _ (Int.le_of_lt (Int.pow_pos Tb)),Int.pow_mul]
 rfl
theorem RU{v j:Int}{k:Nat}(hv:0≤v)(hj:j=8*k-1)(h1:1≤k)(hk:k≤8):(v.fdiv (2 ^ (min j.toNat 64))).fdiv (2 ^ (min (1:Int).toNat 64))=v/256 ^ k:=by
 have h2:min j.toNat 64=8*k-1:=by omega
 have h3:min (1:Int).toNat 64=1:=by decide
 rw [h2,h3,Int.fdiv_eq_ediv_of_nonneg _ (Int.le_of_lt (Int.pow_pos Tb)),Int.fdiv_eq_ediv_of_nonneg _ (Int.le_of_lt (Int.pow_pos Tb)),Int.ediv_ediv_of_nonneg (Int.le_of_lt (Int.pow_pos Tb)),← Int.pow_add,show 8*k-1+1=8*k by omega,Int.pow_mul]
 rfl
theorem qw{v:Int}{k:Nat}(hv:0≤v):v/256 ^ k=0↔v<256 ^ k:=by
 have hp:(0:Int)<256 ^ k:=Int.pow_pos Tb
 constructor
 · intro h
   have:=Int.lt_ediv_add_one_mul_self v hp
   rw [h] at this
   omega
 · intro h; exact Int.ediv_eq_zero_of_lt hv h
structure RS where
 at_:Nat
 code:Int
 fat:Int
def RS.fail(s:RS)(c a:Int):RS:=if s.code=0∧c≠0 then { s with code:=c,fat:=a } else s
def bI(len:Nat)(s:RS)(n:Int):RS×Bool:=
 if s.code≠0 then (s,false) else if n<0 then (s.fail 2 s.at_,false) else if n>(len:Int)-s.at_ then (s.fail 8 len,false) else ({ s with at_:=s.at_+n.toNat },true)
def usize(n:Int):Int:=if n<1∨n>8 then -1 else n
def aJ(bs:Th)(s:RS)(n:Int):RS×Int:=
 if (bI bs.length s (usize n)).2=true then ((bI bs.length s (usize n)).1,num 0 ((bs.drop s.at_).take (usize n).toNat)) else ((bI bs.length s (usize n)).1,0)
theorem B8{len:Nat}{s:RS}{n:Int}(h:(bI len s n).2=true):s.code=0∧0≤n∧n≤(len:Int)-s.at_∧(bI len s n).1={ s with at_:=s.at_+n.toNat }:=by
 unfold bI at h ⊢
 split at h
 · cases h
 · split at h
   · cases h
   · split at h
     · cases h
     · rename_i h1 h2 h3
       rw [LH h1,LH h2,LH h3]
       exact ⟨by simpa using h1,Ta,Ta,rfl⟩
theorem sP{len:Nat}{s:RS}{n:Int}(h:s.at_≤len):(bI len s n).1.at_≤len:=by
 unfold bI RS.fail
 split
 · exact h
 · split
   · split <;> exact h
   · split
     · split <;> exact h
     · simp only; omega
theorem iQ(bs:Th)(s:RS)(n:Int):(aJ bs s n).1=(bI bs.length s (usize n)).1:=by unfold aJ; split <;> rfl
def Vl(fs:Tl):List UInt8:=fs.flatMap fun f=>be f.1 f.2.toNat
theorem MD:(256:Int) ^ 8=18446744073709551616:=by decide
theorem Gi{v n:Int}(hv:0≤v∧v≤18446744073709551615) :
 ((decide (n≥1)&&decide (n≤8))&&decide ((v.fdiv (2 ^ (min (8*n-1).toNat 64))).fdiv (2 ^ (min (1:Int).toNat 64))=0))=fits v n:=by
 unfold fits
 by_cases h:1≤n∧n≤8
 · rw [RU (k:=n.toNat) hv.1 Ta Ta Ta]
   simp only [qw hv.1]
   simp [h]
 · have h1:(decide (n≥1)&&decide (n≤8))=false:=by rw [← Bool.decide_and]; exact LN h
   rw [h1,Bool.false_and]
   exact (LN fun hh=>h ⟨hh.1,hh.2.1⟩).symm
theorem vO{m n:Nat}(h:m≤n):(256:Int) ^ m≤256 ^ n:=by
 obtain ⟨k,rfl⟩:=Nat.exists_eq_add_of_le h
 rw [Int.pow_add]
 have h1:(0:Int)<256 ^ m:=Int.pow_pos Tb
 have h2:(0:Int)<256 ^ k:=Int.pow_pos Tb
 have:=Int.mul_le_mul_of_nonneg_left (show (1:Int)≤256 ^ k by omega) (Int.le_of_lt h1)
 omega
def okF(f:Int×Int):Prop:=(0≤f.1∧f.1≤18446744073709551615)∧aA f.2
def V6(fs:Tl):Bool:=fs.all fun f=>fits f.1 f.2
def vP(bs:Th)(fs:Tl):List UInt8:=bif V6 fs then bs++Vl fs else []
theorem zt{fs:Tl}{k:Nat}{f:Int×Int}(h:fs[k]?=some f):Vl (fs.take (k+1))=Vl (fs.take k)++be f.1 f.2.toNat:=by
 rw [LC,h]; simp [Vl]
theorem zu{fs:Tl}{k:Nat}{f:Int×Int}(h:fs[k]?=some f):V6 (fs.take (k+1))=(V6 (fs.take k)&&fits f.1 f.2):=by
 rw [LC,h]; simp [V6]
theorem Ca{fs:Tl}{k:Nat}{f:Int×Int}(h:fs[k]?=some f)(hf:fits f.1 f.2=false):V6 fs=false:=by
 rw [V6,List.all_eq_false]; exact ⟨f,Ld h,by simp [hf]⟩
theorem lK{v n:Int}(h:fits v n=true):1≤n∧n≤8:=by unfold fits at h; have:=of_decide_eq_true h; exact ⟨this.1,this.2.1⟩
def bH(bs:Th)(s:RS):RS×Int:=if (aJ bs s 8).2>4611686018427387903 then ((aJ bs s 8).1.fail 2 s.at_,0) else aJ bs s 8
def bk(bs:Th)(s:RS)(ds:Th)(c:Int):RS×Bool:=
 if s.code≠0 then (s,false) else if ds.take (min ds.length (bs.length-s.at_))≠(bs.drop s.at_).take (min ds.length (bs.length-s.at_)) then (s.fail c s.at_,false) else bI bs.length s ds.length
theorem iR(bs:Th)(s:RS)(n:Int):0≤(aJ bs s n).2∧(aJ bs s n).2≤18446744073709551615:=by
 unfold aJ
 split
 · have h:=kg ((bs.drop s.at_).take (usize n).toNat) 0 (Int.le_refl _)
   have h8:((bs.drop s.at_).take (usize n).toNat).length≤8:=by rw [Lg]; unfold usize; split <;> omega
   have h2:=vO h8
   rw [MD] at h2
   simp only
   omega
 · simp
theorem jr{bs:Th}{s:RS}{ds:Th}{c:Int}(h:s.code≠0):bk bs s ds c=(s,false):=by unfold bk; rw [LI h]
theorem YF{bs:Th}{s:RS}{n:Int}(h:s.at_≤bs.length):(aJ bs s n).1.at_≤bs.length:=by rw [iQ]; exact sP h
theorem Cb{v n:Int}(h:fits v n=true):usize n=n:=by have:=lK h; unfold usize; rw [LH Ta]
theorem Gj{v n:Int}(h0:0≤v)(h:fits v n=true):num 0 (be v n.toNat)=v:=by
 rw [B7 v h0,Int.zero_mul,Int.zero_add]
 unfold fits at h
 have:=(of_decide_eq_true h).2.2
 exact Int.emod_eq_of_lt h0 this
theorem xz(s:RS)(c a:Int):(s.fail c a).at_=s.at_:=by unfold RS.fail; split <;> rfl
end Go.Pl
namespace Go.Pl
structure Cm where
 k:Int
 to:Int
 fr:Int
 ln:Int
 bs:Th
def vQ(c:Cm):Prop:=aA c.k∧aA c.to∧aA c.fr∧aA c.ln
def aw(c:Cm):Int:=if c.k=1 then c.ln else c.bs.length
def br(c:Cm):Int×Int:=if c.k=1 then (c.fr,c.ln) else (0,0)
theorem sQ{c:Cm}(h:vQ c)(hl:c.bs.length≤9223372036854775807):aA (aw c):=by
 have:=h.2.2.2
 unfold aw
 split
 · exact this
 · exact ⟨Ta,Ta⟩
def av(c:Cm):Int:=
 if c.k≠1∧c.k≠2 then 11 else if aw c=0 then 7 else if valid c.to (aw c)=false then 2 else if c.k=1∧(0<c.bs.length∨valid c.fr c.ln=false) then 2 else if c.k=2∧(c.fr≠0∨c.ln≠0) then 2 else 0
def Cc(a b:Cm):Bool:=decide (a.k=b.k)&&decide (a.to=b.to)&&decide (a.fr=b.fr)&&decide (a.ln=b.ln)&&decide (a.bs=b.bs)
theorem zw{a b:Cm}:Cc a b=true↔a=b:=by
 cases a; cases b
 simp [Cc,and_assoc]
instance:DecidableEq Cm:=fun a b=>decidable_of_iff (Cc a b=true) zw
def Gk:Cm:=⟨0,0,0,0,[]⟩
def jt(c:Cm)(a b:Int):Option Cm:=
 if 0<b∧within c.to (aw c) a b=true then some (if c.k=1 then ⟨1,a,c.fr+(a-c.to),b,[]⟩ else ⟨2,a,0,0,(c.bs.drop (a-c.to).toNat).take b.toNat⟩) else none
def Qu(c:Cm)(a b:Int):Cm:=(jt c a b).getD Gk
def qx(c:Cm):Bool:=decide (c.k=1)&&(aL c.fr c.ln c.to c.ln).isSome
theorem Jl{c:Cm}(h:av c=0):(c.k=1∧aw c=c.ln∧c.bs=[]∧0≤c.fr∧c.fr+c.ln≤4611686018427387903∨c.k=2∧aw c=c.bs.length∧c.fr=0∧c.ln=0)∧0≤c.to∧0<aw c∧c.to+aw c≤4611686018427387903:=by
 unfold av at h
 split at h
 · cases h
 · split at h
   · cases h
   · split at h
     · cases h
     · split at h
       · cases h
       · split at h
         · cases h
         · rename_i h1 h2 h3 h4 h5
           have hv:valid c.to (aw c)=true:=by cases hh:valid c.to (aw c) <;> simp_all
           have Bh:=gC hv
           refine ⟨?_,Ta⟩
           by_cases hk:c.k=1
           · left
             have h6:¬ (0<c.bs.length∨valid c.fr c.ln=false):=fun hh=>h4 ⟨hk,hh⟩
             have h7:valid c.fr c.ln=true:=by cases hh:valid c.fr c.ln <;> simp_all
             have h8:=gC h7
             exact ⟨hk,by simp [aw,hk],Ll.1 Ta,Ta⟩
           · right
             have iB:c.k=2:=by omega
             have h6:¬ (c.fr≠0∨c.ln≠0):=fun hh=>h5 ⟨iB,hh⟩
             exact ⟨iB,by simp [aw,hk],Ta,Ta⟩
theorem lL{t f l:Int}(h:0<l∧0≤t∧t+l≤4611686018427387903∧0≤f∧f+l≤4611686018427387903):av ⟨1,t,f,l,[]⟩=0:=by
 have h1:valid t l=true:=YB Ta
 have h2:valid f l=true:=YB Ta
 simp only [av,aw,if_true,h1,h2]
 simp
 omega
theorem lM{t:Int}{bs:Th}(h:0<bs.length∧0≤t∧t+bs.length≤4611686018427387903):av ⟨2,t,0,0,bs⟩=0:=by
 have h1:valid t bs.length=true:=YB Ta
 have h2:bs≠[]:=fun e=>by subst e; simp at h
 simp [av,aw,h1,h2]
theorem XA{c:Cm}{a b:Int}(h:0<b∧c.to≤a∧a+b≤c.to+aw c):jt c a b=some (if c.k=1 then ⟨1,a,c.fr+(a-c.to),b,[]⟩ else ⟨2,a,0,0,(c.bs.drop (a-c.to).toNat).take b.toNat⟩):=by
 unfold jt
 rw [LI ⟨h.1,by simp [within]; omega⟩]
theorem lN{c:Cm}{a b:Int}(h:¬ (0<b∧c.to≤a∧a+b≤c.to+aw c)):jt c a b=none:=by
 unfold jt
 rw [LH]
 simp [within]; omega
theorem sR{c:Cm}{a b:Int}(hc:av c=0)(h:0<b∧c.to≤a∧a+b≤c.to+aw c):av (Qu c a b)=0∧(Qu c a b).to=a∧aw (Qu c a b)=b∧(Qu c a b).k=c.k:=by
 have hk:=Jl hc
 unfold Qu
 rw [XA h]
 simp only [Option.getD_some]
 by_cases h1:c.k=1
 · rw [LI h1]
   refine ⟨lL Ta,rfl,rfl,h1.symm⟩
 · rw [LH h1]
   have h2:c.k=2:=by omega
   have hl:((c.bs.drop (a-c.to).toNat).take b.toNat).length=b.toNat:=by rw [Lg,Lm]; omega
   refine ⟨lM (by rw [hl]; omega),rfl,?_,h2.symm⟩
   simp only [aw]
   rw [LH Tb,hl]
   omega
end Go.Pl
