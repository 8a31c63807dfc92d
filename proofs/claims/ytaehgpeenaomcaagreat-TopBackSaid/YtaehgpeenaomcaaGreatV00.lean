/- Part 1 of the proof of TopBack: CxA CxB CxC CxD CxE. Conditions: the hypotheses of each theorem. -/
import Derived.RangeFuncLeaves
import Derived.RangeFuncNested
import Derived.OrdersIn
import Derived.KernelRfl
import Derived.Tactics
import Derived.Laws.Sem
import Derived.Laws.World
import Derived.Laws.Tables
import Derived.Laws.Cells
import Derived.Laws.Entries
import Derived.Laws.CopyRow
set_option maxRecDepth 10000
set_option maxHeartbeats 4000000
set_option linter.unusedVariables false
set_option linter.unusedSimpArgs false
theorem Ta{p:Prop}(h:p:=by omega):p:=h
theorem Tb{p:Prop}(h:p:=by decide):p:=h
theorem Tc{p:Prop}(h:p:=by simp):p:=h
theorem Td{p:Prop}(h:p:=by simp only; omega):p:=h
theorem Te{p:Prop}(h:p:=by kernel_rfl):p:=h
theorem Tm{p:Prop}(h:p:=by repeat (first | exact trivial | refine ⟨rfl,?_⟩)):p:=h
theorem Tn{p:Prop}(h:p:=by repeat (first | exact .nil | (constructor; rfl))):p:=h
abbrev La:=@List.getElem?_eq_getElem
abbrev Lb:=@Array.getElem?_eq_some_iff
abbrev Lc:=@List.length_append
abbrev Ld:=@List.mem_of_getElem?
abbrev Le:=@List.getElem?_eq_some_iff
abbrev Lf:=@List.mem_singleton
abbrev Lg:=@List.length_take
abbrev Lh:=@List.flatMap_append
abbrev Li:=@List.length_cons
abbrev Lj:=@List.length_map
abbrev Lk:=@List.flatMap_cons
abbrev Ll:=@List.length_eq_zero_iff
abbrev Lm:=@List.length_drop
abbrev Ln:=@List.mem_map
abbrev Lo:=@List.mem_cons_self
abbrev Lp:=@List.append_assoc
abbrev Lq:=@List.append_nil
abbrev Lr:=@Nat.mul_le_mul_right
abbrev Ls:=@List.mem_append
abbrev Lt:=@List.getElem?_map
abbrev Lu:=@Nat.le_mul_of_pos_right
abbrev Lv:=@List.take_length
abbrev Lw:=@List.mem_append_left
abbrev Lx:=@List.map_append
abbrev Ly:=@List.mem_append_right
abbrev LA:=@List.length_nil
abbrev LC:=@List.take_add_one
abbrev LD:=@Int.toNat_natCast
abbrev LF:=@List.getElem?_take
abbrev LG:=@List.length_singleton
abbrev LH:=@if_neg
abbrev LI:=@if_pos
abbrev LJ:=@Bool.and_eq_true
abbrev LL:=@Nat.zero_le
abbrev LM:=@congrArg
abbrev LN:=@decide_eq_false
abbrev LO:=@decide_eq_true_eq
abbrev LP:=@Nat.le_refl
abbrev LQ:=@decide_eq_true
abbrev LR:=@List.mem_cons
abbrev LS:=@Bool.or_eq_false_iff
abbrev LU:=@List.getElem_of_mem
abbrev LV:=@Nat.zero_add
abbrev LW:=@List.getElem?_cons_succ
abbrev LX:=@List.mem_cons_of_mem
abbrev LY:=@List.flatMap_nil
abbrev LZ:=@List.take_of_length_le
abbrev L0:=@Bool.false_eq_true
abbrev L1:=@Nat.le_mul_of_pos_left
abbrev L2:=@List.getElem?_cons_zero
abbrev L3:=@List.getElem?_append_left
abbrev L4:=@List.nil_append
abbrev L5:=@List.mem_filter
abbrev L6:=@List.getElem?_append_right
abbrev L7:=@Nat.lt_or_ge
abbrev L8:=@List.getElem?_eq_none
abbrev Ka:=@List.map_cons
abbrev Kb:=@List.ext_getElem?
abbrev Kc:=@List.getElem?_drop
abbrev Kd:=@List.not_mem_nil
abbrev Ke:=@List.take_append_drop
abbrev Kg:=@List.nodup_append
abbrev Kh:=@Nat.add_mul
abbrev Ki:=@Nat.le_trans
abbrev Kj:=@List.take_left
abbrev Kk:=@Nat.add_sub_cancel_left
namespace Go.Cx
open Go
def Fw(r:Option Nat):Fence:={ fn:=fun _=>True,depth:=none,alive:=false,round:=r }
theorem fZ{r:Option Nat}{n:Nat}{P:Program}{f:FuncId}{args:Array Value}{w:World}{R:Ending→World→Prop} :
 CallsIn (Fw r) n P f args w R↔Calls P f args w R:=callsIn_wide (n:=n)
structure Ks where
 norm:Act→World→Prop
 ret:Act→World→Prop
 ex:Nat→Act→World→Prop
 pn:List PanicEntry→Act→World→Prop:=fun _ _ _=>False
def Ks.q(k:Ks):Exit→Act→World→Prop
 | .normal=>k.norm
 | .ret=>k.ret
 | .exit i=>k.ex i
 | .panic c=>k.pn c
 | _=>fun _ _=>False
class cH(k:Ks):Prop where
 put:∀ c a d v w,k.pn c (Act.put a d v) w→k.pn c a w
def W(P:Program)(r:Option Nat)(c:Code)(k:Ks)(a:Act)(w:World):Prop:=Code.wpIn (Fw r) 0 P c k.q a w
def y7:Code→Code | .seq a _=>a | c=>c
def y8:Code→Code | .seq _ b=>b | c=>c
def kI:Code→Bool | .seq _ _=>true | _=>false
def r8:Code→Option Operand | .cond c _ _=>some c | _=>none
def Bx:Code→Code | .cond _ a _=>a | c=>c
def By:Code→Code | .cond _ _ b=>b | c=>c
def FW:Code→Option Nat | .block i _=>some i | _=>none
def K4:Code→Code | .block _ c=>c | c=>c
def FX:Code→Option Code | .loop c=>some c | _=>none
def K5:Code→Code | .loop c=>c | c=>c
def FY:Code→Option Nat | .exit i=>some i | _=>none
def xn:Code→Bool | .ret=>true | _=>false
def qe:Code→Bool | .skip=>true | _=>false
def qh:Code→Array Oper | .region _ o _=>o | _=>#[]
def Rk:Code→Option (Operand×Array Tmp) | .rangeFunc g ps _ _=>some (g,ps) | _=>none
def K6:Code→Code | .rangeFunc _ _ a _=>a | c=>c
def K7:Code→Code | .rangeFunc _ _ _ b=>b | c=>c
def XS(fn:Func):Code:=fn.body.getD .skip
section
variable {P:Program}{r:Option Nat}{k:Ks}{a:Act}{w:World}{c:Code}
theorem Bz{k':Ks}(h:W P r c k a w)(hn:∀ a w,k.norm a w→k'.norm a w)(hr:∀ a w,k.ret a w→k'.ret a w)(he:∀ i a w,k.ex i a w→k'.ex i a w)(hp:∀ c a w,k.pn c a w→k'.pn c a w:=by exact fun _ _ _ h=>h):W P r c k' a w:=
 wpIn_mono h fun e a w hq=>by cases e <;> first | exact hn _ _ hq | exact hr _ _ hq | exact he _ _ _ hq | exact hp _ _ _ hq | exact hq
theorem Rl(hc:kI c=true)(h:W P r (y7 c) { k with norm:=fun a w=>W P r (y8 c) k a w } a w):W P r c k a w:=by
 cases c <;> simp [kI] at hc
 refine wpIn_seq (wpIn_mono h fun e a w hq=>?_)
 cases e <;> exact hq
theorem K8(hc:qe c=true)(h:k.norm a w):W P r c k a w:=by
 cases c <;> simp [qe] at hc
 exact wpIn_skip h
theorem Rm(hc:xn c=true)(h:k.ret a w):W P r c k a w:=by
 cases c <;> simp [xn] at hc
 exact wpIn_ret h
theorem K9{i:Nat}(hc:FY c=some i)(h:k.ex i a w):W P r c k a w:=by
 cases c <;> simp [FY] at hc
 subst hc
 exact wpIn_exit h
theorem Ma{x:Operand}{b:Bool}(hc:r8 c=some x)(hb:a.eval x=.bool b)(ht:b=true→W P r (Bx c) k a w)(hf:b=false→W P r (By c) k a w):W P r c k a w:=by
 cases c <;> simp [r8] at hc
 subst hc
 exact wpIn_cond_split hb ht hf
theorem FZ{i:Nat}(hc:FW c=some i)(h:W P r (K4 c) { k with ex:=fun j a w=>if j=i then k.norm a w else k.ex j a w } a w):W P r c k a w:=by
 cases c <;> simp [FW] at hc
 subst hc
 refine wpIn_block (wpIn_mono h fun e a w hq=>?_)
 cases e <;> exact hq
theorem Mb{b:Code}(hc:FX c=some b)(I:Act→World→Prop)(μ:Act→World→Nat)(h0:I a w)
 (round:∀ a w,I a w→W P r (K5 c) { k with norm:=fun a' w'=>I a' w'∧μ a' w'<μ a w } a w):W P r c k a w:=by
 cases c <;> simp [FX] at hc
 refine wpIn_loop I μ h0 fun a w hI=>wpIn_mono (round a w hI) fun e a w hq=>?_
 cases e <;> exact hq
end
def rV(P:Program)(r:Option Nat)(k:Ks)(o:Oper)(K:Act→World→Prop)(a:Act)(w:World):Prop:=
 o.uponIn (Fw r) 0 P a K k.q ((o.semAt r a.eval).run P w)
def ga(P:Program)(r:Option Nat)(k:Ks)(ops:Array Oper)(i:Nat)(K:Act→World→Prop)(a:Act)(w:World):Prop:=
 ∃ o,ops[i]?=some o∧(Region.wanted o (yielded ops a.tmps)=true→rV P r k o K a w)∧(Region.wanted o (yielded ops a.tmps)=false→K (a.put o.dst undef) w)
section
variable {P:Program}{r:Option Nat}{k:Ks}{a:Act}{w:World}{ops:Array Oper}
theorem ga.wpOpIn{i:Nat}{K:Act→World→Prop}(h:ga P r k ops i K a w):wpOpIn (Fw r) 0 P ops k.q i K a w:=by
 obtain ⟨o,ho,h1,h2⟩:=h
 unfold Go.wpOpIn
 simp only [ho]
 split
 · rename_i hw
   exact ⟨fun _ _=>trivial,h1 hw⟩
 · rename_i hw
   exact ⟨fun _ _=>trivial,h2 (by simpa using hw)⟩
theorem rV.mono{o:Oper}{K K':Act→World→Prop}(h:rV P r k o K a w)(hk:∀ a w,K a w→K' a w):rV P r k o K' a w:=
 (Oper.wpIn_mono (F:=Fw r) (n:=0) (Q:=k.q) hk ⟨fun _ _=>trivial,h⟩).2
theorem ga.mono{i:Nat}{K K':Act→World→Prop}(h:ga P r k ops i K a w)(hk:∀ a w,K a w→K' a w):ga P r k ops i K' a w:=by
 obtain ⟨o,ho,h1,h2⟩:=h
 exact ⟨o,ho,fun hw=>(h1 hw).mono hk,fun hw=>hk _ _ (h2 hw)⟩
end
abbrev Bs:=Nat→Prop
abbrev No:Bs:=fun _=>False
abbrev Mn(l:List Nat):Bs:=fun k=>k∈l
structure Ext(Y:Bs)(w w':World):Prop where
 os:w'.os=w.os
 tape:w'.tape=w.tape
 output:w'.output=w.output
 size:w.heap.size≤w'.heap.size
 same:∀ k,k<w.heap.size→¬ Y k→w'.heap[k]?=w.heap[k]?
theorem Ext.refl(Y:Bs)(w:World):Ext Y w w:=⟨rfl,rfl,rfl,LP _,fun _ _ _=>rfl⟩
theorem Ext.trans{Y:Bs}{a b c:World}(h:Ext Y a b)(g:Ext Y b c):Ext Y a c:=
 ⟨g.os.trans h.os,g.tape.trans h.tape,g.output.trans h.output,Ki h.size g.size,fun k hk hY=>(g.same k (Nat.lt_of_lt_of_le hk h.size) hY).trans (h.same k hk hY)⟩
theorem Ext.mono{Y Y':Bs}{a b:World}(h:Ext Y a b)(hY:∀ y,Y y→Y' y):Ext Y' a b:=
 ⟨h.os,h.tape,h.output,h.size,fun k hk y9=>h.same k hk fun hm=>y9 (hY k hm)⟩
theorem Ext.F1{Y:Bs}{a b:World}(h:Ext No a b):Ext Y a b:=h.mono fun _ h=>h.elim
theorem Ext.drew{Y:Bs}(w:World):Ext Y w { w with drawn:=w.drawn+1 }:=⟨rfl,rfl,rfl,LP _,fun _ _ _=>rfl⟩
abbrev Md:=Option (World×Bs)
def cN(md:Md)(w u:World):Prop:=match md with | none=>u=w | some (b,Y)=>Ext Y b u
def aQ(md:Md)(w:World):Prop:=match md with | none=>True | some (b,Y)=>Ext Y b w
theorem cN.self{md:Md}{w:World}(h:aQ md w):cN md w w:=by
 cases md with
 | none=>rfl
 | some x=>exact h
theorem aQ.ext{md:Md}{w w':World}(h:aQ md w)(hx:Ext No w w'):aQ md w':=by
 cases md with
 | none=>trivial
 | some x=>exact Ext.trans h hx.F1
def Yl(P:Program)(md:Md)(w:World)(a:Act)(o:Oper)(v:Value):Prop:=
 ∀ u,cN md w u→(execOp a.eval o).run P u=.ok (.value v) u
def oB(P:Program)(md:Md)(ops:Array Oper)(w:World)(a:Act)(o:Oper)(v:Value):Prop:=
 (Region.wanted o (yielded ops a.tmps)=true→Yl P md w a o v)∧(Region.wanted o (yielded ops a.tmps)=false→v=undef)
inductive Tr where
 | done
 | pure (i:Nat) (t:Tr)
 | act (i:Nat) (t:Tr)
 | act2 (i:Nat) (t:Tr) (j:Nat) (u:Tr)
 | act3 (i:Nat) (t:Tr) (j:Nat) (u:Tr) (l:Nat) (v:Tr)
 | cut (t:Tr)
 | j7 (t:Tr)
 | acto (i:Nat) (t:Tr)
def RW(P:Program)(r:Option Nat)(k:Ks)(ops:Array Oper):Md→Tr→Act→World→Prop
 | _,.cut t,a,w=>RW P r k ops none t a w
 | _,.j7 t,a,w=>∃ Y,RW P r k ops (some (w,Y)) t a w
 | _,.acto i t,a,w=>ga P r k ops i (fun a' w'=>∃ Y,RW P r k ops (some (w',Y)) t a' w') a w
 | md,.done,a,w=>k.norm a w
 | md,.pure i t,a,w=>∃ o v,ops[i]?=some o∧oB P md ops w a o v∧RW P r k ops md t (a.put o.dst v) w
 | md,.act i t,a,w=>ga P r k ops i (fun a' w'=>aQ md w'∧RW P r k ops md t a' w') a w
 | md,.act2 i t j u,a,w=>ga P r k ops i (fun a' w'=>aQ md w'∧RW P r k ops md t a' w') a w∧ga P r k ops j (fun a' w'=>aQ md w'∧RW P r k ops md u a' w') a w
 | md,.act3 i t j u l v,a,w=>ga P r k ops i (fun a' w'=>aQ md w'∧RW P r k ops md t a' w') a w∧ga P r k ops j (fun a' w'=>aQ md w'∧RW P r k ops md u a' w') a w ∧
  ga P r k ops l (fun a' w'=>aQ md w'∧RW P r k ops md v a' w') a w
def Qh(n:Nat):Nat→Tr→Bool
 | i,.done=>i==n
 | i,.pure j t=>j==i&&Nat.blt i n&&Qh n (i+1) t
 | i,.act j t=>j==i&&Nat.blt i n&&Qh n (i+1) t
 | _,_=>false
def QI(ops:Array Oper):Bool:=ops.all fun o=>match o.op with | .defer _=>false | .select ..=>false | _=>true
theorem JY{r:Option Nat}{ρ:Operand→Value}{o:Oper}(h:(match o.op with | .defer _=>false | .select ..=>false | _=>true)=true):o.semAt r ρ=execOp ρ o:=by
 unfold Oper.semAt
 cases r <;> cases ho:o.op <;> simp_all
theorem gh{ops:Array Oper}(h:QI ops=true){i:Nat}{o:Oper}(ho:ops[i]?=some o):(match o.op with | .defer _=>false | .select ..=>false | _=>true)=true:=
 Array.all_eq_true_iff_forall_mem.1 h o (Array.mem_of_getElem? ho)
section
variable {P:Program}{r:Option Nat}{k:Ks}{ops:Array Oper}{md:Md}
theorem oB.PD{i:Nat}{o:Oper}{v:Value}{K:Act→World→Prop}{a:Act}{w:World}(hp:QI ops=true)(ho:ops[i]?=some o)(hS:cN md w w)(hy:oB P md ops w a o v)(h:K (a.put o.dst v) w) :
 ga P r k ops i K a w:=by
 refine ⟨o,ho,fun hw=>?_,fun hw=>?_⟩
 · unfold rV
   rw [JY (gh hp ho),hy.1 hw w hS]
   exact h
 · rw [← hy.2 hw]
   exact h
theorem RW.text(hp:QI ops=true):∀ (t:Tr) (i:Nat) (a:Act) (w:World),Qh ops.size i t=true→RW P r k ops none t a w→wpOpsIn (Fw r) 0 P ops k.q (List.range' i (ops.size-i)) a w:=by
 intro t
 induction t with
 | done=>
  intro i a w aq h
  have:ops.size-i=0:=by simp [Qh] at aq; omega
  rw [this]
  exact h
 | pure j t ih=>
  intro i a w aq h
  simp only [Qh,LJ,beq_iff_eq,Nat.blt_eq] at aq
  obtain ⟨⟨rfl,aX⟩,aq⟩:=aq
  obtain ⟨o,v,ho,hy,hr⟩:=h
  rw [show ops.size-j=(ops.size-(j+1))+1 by omega,List.range'_succ,wpOpsIn_cons]
  exact (oB.PD (k:=k) (md:=none) hp ho (show cN none w w from rfl) hy (ih _ _ _ aq hr)).wpOpIn
 | act j t ih=>
  intro i a w aq h
  simp only [Qh,LJ,beq_iff_eq,Nat.blt_eq] at aq
  obtain ⟨⟨rfl,aX⟩,aq⟩:=aq
  rw [show ops.size-j=(ops.size-(j+1))+1 by omega,List.range'_succ,wpOpsIn_cons]
  exact (ga.mono h fun a w h=>ih _ _ _ aq h.2).wpOpIn
 | act2=>intro i a w aq; simp [Qh] at aq
 | act3=>intro i a w aq; simp [Qh] at aq
 | cut=>intro i a w aq; simp [Qh] at aq
 | j7=>intro i a w aq; simp [Qh] at aq
 | acto=>intro i a w aq; simp [Qh] at aq
end
theorem Mc{P:Program}{r:Option Nat}{k:Ks}{a:Act}{w:World}{c:Code}(t:Tr)(hc:(match c with | .region _ o d=>!d&&QI o&&Qh o.size 0 t | _=>false)=true)
 (h:RW P r k (qh c) none t a w):W P r c k a w:=by
 cases c <;> simp at hc
 rename_i id o d
 obtain ⟨⟨hd,hp⟩,ht⟩:=hc
 subst hd
 have:=RW.text hp t 0 a w ht h
 rw [Nat.sub_zero] at this
 exact wpIn_region (by rw [List.range_eq_range']; exact this)
def r'(x:Nat):List Nat→Bool
 | []=>false
 | y::r=>Nat.beq x y||r' x r
theorem kJ{x:Nat}:∀ {l:List Nat},r' x l=true↔x∈l
 | []=>by simp [r']
 | y::r=>by simp [r',kJ (l:=r)]
def Y8(ops:Array Oper)(i:Nat):List Nat:=match ops[i]? with
 | some o=>(o.after.toList.filter fun e=>Region.binds .any e).map (·.on)
 | none=>[]
def oC(ops:Array Oper):Nat→List Nat→List Nat→List Nat
 | 0,_,seen=>seen
 | _+1,[],seen=>seen
 | f+1,x::todo,seen=>bif r' x seen then oC ops f todo seen else oC ops f (Y8 ops x++todo) (x::seen)
def sa(o:Oper):Bool:=match o.op with | .move _=>true | .extract _ _=>true | _=>false
def oD(ops:Array Oper)(i:Nat):Bool:=match ops[i]? with | some o=>sa o | none=>false
def kK(ops:Array Oper)(i:Nat):Bool:=
 (fun m=>(List.range ops.size).all fun j=>Nat.beq j i||oD ops j||r' j m||r' i (oC ops 4096 (Y8 ops j) [])) (oC ops 4096 (Y8 ops i) [])
def Dc(ops:Array Oper)(ls:Array Bool):Prop:=∀ x,ls.getD x false=true→∀ y∈Y8 ops x,ls.getD y false=true
theorem Xi{ops:Array Oper}{ls:Array Bool}(hD:Dc ops ls):∀ (f:Nat) (todo seen:List Nat),(∀ x∈todo,ls.getD x false=true)→(∀ x∈seen,ls.getD x false=true)→∀ x∈oC ops f todo seen,ls.getD x false=true
 | 0,_,_,_,hs=>hs
 | _+1,[],_,_,hs=>hs
 | f+1,x::todo,seen,ht,hs=>by
  unfold oC
  have hx:=ht x Tc
  cases hm:r' x seen with
  | true=>exact Xi hD f todo seen (fun y hy=>ht y (by simp [hy])) hs
  | false=>
   refine Xi hD f _ _ (fun y hy=>?_) (fun y hy=>?_)
   · rcases Ls.1 hy with hy | hy
     · exact hD x hx y hy
     · exact ht y (by simp [hy])
   · rcases LR.1 hy with rfl | hy
     · exact hx
     · exact hs y hy
theorem YG{ops:Array Oper}{ls:Array Bool}{i:Nat}(h:i∈Region.ready .any ops ls):∀ y∈Y8 ops i,ls.getD y false=true:=fun y hy=>by
 obtain ⟨_,o,ho,cI⟩:=mem_ready.1 h
 unfold Y8 at hy
 rw [ho] at hy
 obtain ⟨e,he,rfl⟩:=Ln.1 hy
 obtain ⟨he,hb⟩:=L5.1 he
 exact cI e (by simpa using he) hb
theorem Dc.set{ops:Array Oper}{ls:Array Bool}{i:Nat}(hD:Dc ops ls)(h:i∈Region.ready .any ops ls):Dc ops (ls.setIfInBounds i true):=fun x hx y hy=>by
 by_cases hxi:i=x
 · subst hxi; exact getD_set_true (YG h y hy)
 · rw [getD_set_ne false hxi] at hx
   exact getD_set_true (hD x hx y hy)
theorem Dc.start(ops:Array Oper):Dc ops (Array.replicate ops.size false):=fun x hx=>by
 have:(Array.replicate ops.size false).getD x false=false:=by
  simp only [Array.getD_eq_getD_getElem?,Array.getElem?_replicate]
  split <;> rfl
 rw [this] at hx; cases hx
theorem y'{ops:Array Oper}{ls:Array Bool}{i j:Nat}(hD:Dc ops ls)(hi:i∈Region.ready .any ops ls)(hj:j∈Region.ready .any ops ls)(bO:j≠i)(oE:oD ops i=false):kK ops j=false:=by
 cases hc:kK ops j with
 | false=>rfl
 | true=>
  have h0:=(mem_ready.1 hi).1
  have h1:=(mem_ready.1 hj).1
  obtain ⟨_,o,ho,_⟩:=mem_ready.1 hi
  have aX:i<ops.size:=(Lb.1 ho).1
  have un:∀ k:Nat,ls.getD k true=false→ls.getD k false=true→False:=fun k h h'=>by
   simp only [Array.getD_eq_getD_getElem?] at h h'
   cases hk:ls[k]? with
   | none=>rw [hk] at h; cases h
   | some b=>rw [hk] at h h'; simp only [Option.getD_some] at h h'; rw [h] at h'; cases h'
  unfold kK at hc
  rw [List.all_eq_true] at hc
  have:=hc i (List.mem_range.2 aX)
  simp only [oE,Bool.or_false,Bool.or_eq_true,Nat.beq_eq] at this
  rcases this with (h | h) | h
  · exact absurd h.symm bO
  · exact (un i h0 (Xi hD _ _ _ (YG hj) Tc i (kJ.1 h))).elim
  · exact (un j h1 (Xi hD _ _ _ (YG hi) Tc j (kJ.1 h))).elim
def kL(P:Program)(r:Option Nat)(k:Ks)(ops:Array Oper):Nat→World×Bs→Array Bool→Act→World→Prop
 | 0,_,ls,a,w=>Region.ready .any ops ls=[]∧k.norm a w
 | n+1,b,ls,a,w=>(Region.ready .any ops ls=[]→k.norm a w) ∧
  ∀ i∈Region.ready .any ops ls,ga P r k ops i (fun a' w'=>∃ b':World×Bs,(kK ops i=false→b'=b∧((oD ops i=true→aQ (some b) w)→aQ (some b) w'))∧kL P r k ops n b' (ls.setIfInBounds i true) a' w') a w
def XJ(ops:Array Oper):Nat→Array Bool→Tr→Bool
 | _,ls,.done=>(Region.ready .any ops ls).isEmpty
 | n+1,ls,.pure i t=>Region.ready .any ops ls==[i]&&kK ops i&&XJ ops n (ls.setIfInBounds i true) t
 | n+1,ls,.act i t=>Region.ready .any ops ls==[i]&&kK ops i&&XJ ops n (ls.setIfInBounds i true) t
 | _,_,_=>false
def QY(ops:Array Oper):Nat→Array Bool→Tr→Bool
 | n,ls,.cut t=>XJ ops n ls t
 | _,ls,.done=>(Region.ready .any ops ls).isEmpty
 | n+1,ls,.pure i t=>(Region.ready .any ops ls).contains i&&Region.free .any ops ls i&&QY ops n (ls.setIfInBounds i true) t
 | n+1,ls,.act i t=>Region.ready .any ops ls==[i]&&QY ops n (ls.setIfInBounds i true) t
 | n+1,ls,.act2 i t j u=>Region.ready .any ops ls==[i,j]&&QY ops n (ls.setIfInBounds i true) t&&QY ops n (ls.setIfInBounds j true) u
 | n+1,ls,.act3 i t j u l v=>Region.ready .any ops ls==[i,j,l]&&QY ops n (ls.setIfInBounds i true) t&&QY ops n (ls.setIfInBounds j true) u&&QY ops n (ls.setIfInBounds l true) v
 | n+1,ls,.acto i t=>Region.ready .any ops ls==[i]&&kK ops i&&QY ops n (ls.setIfInBounds i true) t
 | 0,_,_=>false
 | _,_,.j7 _=>false
section
variable {P:Program}{r:Option Nat}{k:Ks}{ops:Array Oper}{b:World×Bs}
theorem kL.wpAnyIn:∀ (n:Nat) (b:World×Bs) (ls:Array Bool) (a:Act) (w:World),kL P r k ops n b ls a w→wpAnyIn (Fw r) 0 P .any ops k.q n ls a w
 | 0,_,_,_,_,h=>h
 | n+1,_,_,_,_,h=>⟨h.1,fun i hi=>((h.2 i hi).mono fun a' w' h'=>(let ⟨b',_,h''⟩:=h'; kL.wpAnyIn n b' _ a' w' h'')).wpOpIn⟩
theorem oB.put{oi oj:Oper}{v:Value}{a:Act}{w w':World}(hs:∀ cs b,oi.op≠.select cs b)(h3:∀ d,oj.dst=some d→d∉oi.looksAt ops)(u:Value)(hy:oB P (some b) ops w a oi v) :
 oB P (some b) ops w' (a.put oj.dst u) oi v:=by
 unfold oB Yl at *
 rw [wanted_put oi a oj.dst u h3,execOp_put oi hs a oj.dst u h3]
 exact hy
theorem oF{o:Oper}(h:(match o.op with | .defer _=>false | .select ..=>false | _=>true)=true)(cs:Array SelectCase)(b:Bool):o.op≠.select cs b:=by
 intro e; simp [e] at h
theorem RW.cut(hp:QI ops=true):∀ (t:Tr) (n:Nat) (ls:Array Bool) (a:Act) (w:World),XJ ops n ls t=true→RW P r k ops none t a w→kL P r k ops n b ls a w:=by
 intro t
 induction t with
 | done=>
  intro n ls a w aq h
  have hr:Region.ready .any ops ls=[]:=by cases n <;> simpa [XJ,List.isEmpty_iff] using aq
  cases n with
  | zero=>exact ⟨hr,h⟩
  | succ n=>exact ⟨fun _=>h,by rw [hr]; simp⟩
 | pure i t ih=>
  intro n ls a w aq h
  cases n with
  | zero=>simp [XJ] at aq
  | succ n=>
   simp only [XJ,LJ,beq_iff_eq] at aq
   obtain ⟨o,v,ho,hy,hr⟩:=h
   refine ⟨fun h0=>(by rw [aq.1.1] at h0; cases h0),fun j hj=>?_⟩
   rw [aq.1.1] at hj
   cases Lf.1 hj
   exact oB.PD (k:=k) (md:=none) hp ho rfl hy ⟨b,fun hc=>(by rw [aq.1.2] at hc; cases hc),ih _ _ _ _ aq.2 hr⟩
 | act i t ih=>
  intro n ls a w aq h
  cases n with
  | zero=>simp [XJ] at aq
  | succ n=>
   simp only [XJ,LJ,beq_iff_eq] at aq
   refine ⟨fun h0=>(by rw [aq.1.1] at h0; cases h0),fun j hj=>?_⟩
   rw [aq.1.1] at hj
   cases Lf.1 hj
   exact ga.mono h fun a' w' h'=>⟨b,fun hc=>(by rw [aq.1.2] at hc; cases hc),ih _ _ _ _ aq.2 h'.2⟩
 | act2 i t j u _ _=>intro n ls a w aq; cases n <;> simp [XJ] at aq
 | act3 i t j u l v _ _ _=>intro n ls a w aq; cases n <;> simp [XJ] at aq
 | cut t _=>intro n ls a w aq; cases n <;> simp [XJ] at aq
 | j7 t _=>intro n ls a w aq; cases n <;> simp [XJ] at aq
 | acto i t _=>intro n ls a w aq; cases n <;> simp [XJ] at aq
variable [cH k]
theorem ga.put{j:Nat}{oi oj:Oper}{v:Value}{K:Act→World→Prop}{a:Act}{w:World}(hp:QI ops=true){i:Nat}(hoi:ops[i]?=some oi)(Me:ops[j]?=some oj)(sb:oi.apart ops oj=true)
 (hy:oB P (some b) ops w a oi v) (h:ga P r k ops j K (a.put oi.dst v) w):ga P r k ops j (fun a' w'=>oB P (some b) ops w' a' oi v∧K (a'.put oi.dst v) w') a w:=by
 obtain ⟨h1,h2,h3⟩:=Oper.apart_spec sb
 have Mf:=oF (gh hp hoi)
 have hsj:=oF (gh hp Me)
 obtain ⟨o,ho,fS,F2⟩:=h
 rw [Me] at ho
 cases ho
 rw [wanted_put oj a oi.dst v h1] at fS F2
 refine ⟨oj,Me,fun hw=>?_,fun hw=>?_⟩
 · have fS:=fS hw
   unfold rV at *
   rw [JY (gh hp Me)] at *
   rw [execOp_put oj hsj a oi.dst v h1] at fS
   generalize (execOp a.eval oj).run P w=x at *
   cases x with
   | ok x w'=>
    cases x <;> simp only [Oper.uponIn] at fS ⊢
    case value u=>exact ⟨hy.put Mf h3 u,by rw [← Act.put_comm a v u h2]; exact fS⟩
    case skip=>exact ⟨hy.put Mf h3 _,by rw [← Act.put_comm a v undef h2]; exact fS⟩
    case defer d=>
     refine ⟨oB.put (a:={ a with defers:=d::a.defers }) Mf h3 _ hy,?_⟩
     rw [← Act.put_comm _ v undef h2,← Act.put_defers]
     exact fS
    case enter f args=>
     refine ⟨fS.1,CallsIn.mono fS.2 fun e w'' he=>?_⟩
     cases e with
     | returned u=>exact ⟨hy.put Mf h3 u,by rw [← Act.put_comm a v u h2]; exact he⟩
     | panicked c=>exact cH.put _ _ _ _ _ he
     | outgrown=>exact he
    case row row args=>exact ⟨fS.1,RowsIn.mono fS.2 fun u w'' he=>⟨hy.put Mf h3 u,by rw [← Act.put_comm a v u h2]; exact he⟩⟩
    case round=>
     refine ⟨fS.1,RoundIn.mono fS.2 fun e w'' he=>?_⟩
     cases e with
     | returned u=>exact ⟨hy.put Mf h3 u,by rw [← Act.put_comm a v u h2]; exact he⟩
     | panicked c=>exact cH.put _ _ _ _ _ he
     | outgrown=>exact he
   | halt x w'=>
    cases x <;> simp only [Oper.uponIn] at fS ⊢
    case panic u=>exact cH.put _ _ _ _ _ fS
 · exact ⟨hy.put Mf h3 _,by rw [← Act.put_comm a v undef h2]; exact F2 hw⟩
theorem F3{P:Program}{x:Value}{i:Nat}{v:Value}{b:World}(h1:(Instr.extract x i >>= fun r=>pure (Next.value r)).run P b=.ok (Next.value v) b)(u:World):(Instr.extract x i >>= fun r=>pure (Next.value r)).run P u=.ok (Next.value v) u:=by
 cases x <;> simp [Instr.extract] at h1 ⊢
 rename_i vs
 cases hv:vs[i]? <;> simp [hv] at h1 ⊢
 exact h1
theorem oB.mv{o:Oper}{v:Value}{a:Act}{w w':World}{md:Md}(hm:sa o=true)(hy:oB P (some b) ops w a o v):oB P md ops w' a o v:=by
 obtain ⟨dst,op,ty,pos,af,g⟩:=o
 cases op <;> simp [sa] at hm
 · rename_i x
   refine ⟨fun hw u _=>?_,hy.2⟩
   have h1:=hy.1 hw b.1 (Ext.refl _ _)
   simp only [execOp] at h1 ⊢
   have e:a.eval x=v:=by simpa using h1
   rw [e]; rfl
 · rename_i x i
   refine ⟨fun hw u _=>?_,hy.2⟩
   have h1:=hy.1 hw b.1 (Ext.refl _ _)
   simp only [execOp] at h1 ⊢
   exact F3 h1 u
theorem kL.first{i:Nat}{oi:Oper}{v:Value}(hp:QI ops=true)(hi:ops[i]?=some oi):∀ (n:Nat) (b:World×Bs) (ls:Array Bool) (a:Act) (w:World),
 (∀ j oj,ops[j]?=some oj→j≠i→ls.getD j true=false→(∀ e∈oj.after,Region.binds .any e=true→e.on≠i)→oi.apart ops oj=true) →
 Dc ops ls→i∈Region.ready .any ops ls→oB P (some b) ops w a oi v→(sa oi=false→aQ (some b) w) →
 kL P r k ops n b (ls.setIfInBounds i true) (a.put oi.dst v) w→kL P r k ops (n+1) b ls a w:=by
 intro n
 induction n with
 | zero=>
  intro b ls a w _ hD hr hy hS H
  refine ⟨fun h=>(by rw [h] at hr; cases hr),fun j hj=>?_⟩
  by_cases vA:j=i
  · subst vA
    cases oE:sa oi with
    | false=>exact oB.PD (md:=some b) hp hi (cN.self (hS oE)) hy ⟨b,fun _=>⟨rfl,fun _=>hS oE⟩,H⟩
    | true=>exact oB.PD (md:=none) hp hi rfl (hy.mv oE) ⟨b,fun _=>⟨rfl,fun hw=>hw (by simp only [oD,hi,oE])⟩,H⟩
  · have:=ready_mono hj vA
    rw [H.1] at this
    cases this
 | succ n ih=>
  intro b ls a w IN hD hr hy hS H
  refine ⟨fun h=>(by rw [h] at hr; cases hr),fun j hj=>?_⟩
  by_cases vA:j=i
  · subst vA
    cases oE:sa oi with
    | false=>exact oB.PD (md:=some b) hp hi (cN.self (hS oE)) hy ⟨b,fun _=>⟨rfl,fun _=>hS oE⟩,H⟩
    | true=>exact oB.PD (md:=none) hp hi rfl (hy.mv oE) ⟨b,fun _=>⟨rfl,fun hw=>hw (by simp only [oD,hi,oE])⟩,H⟩
  · have h1:=H.2 j (ready_mono hj vA)
    obtain ⟨Rn,oj,Me,cI⟩:=mem_ready.1 hj
    have jab:∀ e∈oj.after,Region.binds .any e=true→e.on≠i:=fun e he hb heq=>by
     have h1:=cI e he hb
     have h0:=(mem_ready.1 hr).1
     rw [heq] at h1
     rcases L7 i ls.size with h' | h'
     · simp [h'] at h0 h1; rw [h0] at h1; cases h1
     · simp [Array.getElem?_eq_none h'] at h1
    have h2:=ga.put hp hi Me (IN j oj Me vA Rn jab) hy h1
    have Mg:∀ k ok,ops[k]?=some ok→k≠i→(ls.setIfInBounds j true).getD k true=false →
     (∀ e∈ok.after,Region.binds .any e=true→e.on≠i)→oi.apart ops ok=true:=fun k ok hk ZT hun cz=>by
     refine IN k ok hk ZT ?_ cz
     by_cases vm:j=k
     · subst vm; exact Rn
     · rw [getD_set_ne true vm] at hun; exact hun
    refine h2.mono fun a' w' h3=>?_
    obtain ⟨hy',b',hc,hA⟩:=h3
    have kM:=fun oE:sa oi=false=>hc (y' hD hr hj vA (by simp only [oD,hi,oE]))
    refine ⟨b',hc,ih b' (ls.setIfInBounds j true) a' w' Mg (hD.set hj) (ready_mono hr (Ne.symm vA)) ?_ (fun oE=>?_) ?_⟩
    · cases oE:sa oi with
      | false=>rw [(kM oE).1]; exact hy'
      | true=>exact hy'.mv oE
    · rw [(kM oE).1]; exact (kM oE).2 (fun _=>hS oE)
    · rw [Array.setIfInBounds_comm _ _ vA]
      exact hA
theorem RW.any(hp:QI ops=true):∀ (t:Tr) (n:Nat) (b:World×Bs) (ls:Array Bool) (a:Act) (w:World),QY ops n ls t=true→Dc ops ls→aQ (some b) w→RW P r k ops (some b) t a w→kL P r k ops n b ls a w:=by
 intro t
 induction t with
 | done=>
  intro n b ls a w aq hD hS h
  have hr:Region.ready .any ops ls=[]:=by cases n <;> simpa [QY,List.isEmpty_iff] using aq
  cases n with
  | zero=>exact ⟨hr,h⟩
  | succ n=>exact ⟨fun _=>h,by rw [hr]; simp⟩
 | pure i t ih=>
  intro n b ls a w aq hD hS h
  obtain ⟨o,v,ho,hy,hr⟩:=h
  cases n with
  | zero=>simp [QY] at aq
  | succ n=>
   simp only [QY,LJ] at aq
   have hir:i∈Region.ready .any ops ls:=by simpa using aq.1.1
   exact kL.first hp ho n b ls a w (fun j oj hj=>Region.free_spec ho aq.1.2 j oj hj) hD hir hy (fun _=>hS) (ih _ _ _ _ _ aq.2 (hD.set hir) hS hr)
 | act i t ih=>
  intro n b ls a w aq hD hS h
  cases n with
  | zero=>simp [QY] at aq
  | succ n=>
   simp only [QY,LJ,beq_iff_eq] at aq
   refine ⟨fun h0=>(by rw [aq.1] at h0; cases h0),fun j hj=>?_⟩
   have hd:=hD.set hj
   rw [aq.1] at hj
   cases Lf.1 hj
   exact ga.mono h fun a' w' h'=>⟨b,fun _=>⟨rfl,fun _=>h'.1⟩,ih _ _ _ _ _ aq.2 hd h'.1 h'.2⟩
 | act2 i t j u ih1 ih2=>
  intro n b ls a w aq hD hS h
  cases n with
  | zero=>simp [QY] at aq
  | succ n=>
   simp only [QY,LJ,beq_iff_eq] at aq
   obtain ⟨⟨hr,o1⟩,o2⟩:=aq
   refine ⟨fun h0=>(by rw [hr] at h0; cases h0),fun l hl=>?_⟩
   have hd:=hD.set hl
   rw [hr] at hl
   rcases LR.1 hl with rfl | hl
   · exact ga.mono h.1 fun a' w' h'=>⟨b,fun _=>⟨rfl,fun _=>h'.1⟩,ih1 _ _ _ _ _ o1 hd h'.1 h'.2⟩
   · cases Lf.1 hl
     exact ga.mono h.2 fun a' w' h'=>⟨b,fun _=>⟨rfl,fun _=>h'.1⟩,ih2 _ _ _ _ _ o2 hd h'.1 h'.2⟩
 | act3 i t j u l v ih1 ih2 ih3=>
  intro n b ls a w aq hD hS h
  cases n with
  | zero=>simp [QY] at aq
  | succ n=>
   simp only [QY,LJ,beq_iff_eq] at aq
   obtain ⟨⟨⟨hr,o1⟩,o2⟩,o3⟩:=aq
   refine ⟨fun h0=>(by rw [hr] at h0; cases h0),fun m hm=>?_⟩
   have hd:=hD.set hm
   rw [hr] at hm
   rcases LR.1 hm with rfl | hm
   · exact ga.mono h.1 fun a' w' h'=>⟨b,fun _=>⟨rfl,fun _=>h'.1⟩,ih1 _ _ _ _ _ o1 hd h'.1 h'.2⟩
   · rcases LR.1 hm with rfl | hm
     · exact ga.mono h.2.1 fun a' w' h'=>⟨b,fun _=>⟨rfl,fun _=>h'.1⟩,ih2 _ _ _ _ _ o2 hd h'.1 h'.2⟩
     · cases Lf.1 hm
       exact ga.mono h.2.2 fun a' w' h'=>⟨b,fun _=>⟨rfl,fun _=>h'.1⟩,ih3 _ _ _ _ _ o3 hd h'.1 h'.2⟩
 | cut t _=>
  intro n b ls a w aq hD hS h
  exact RW.cut hp t n ls a w (by cases n <;> exact aq) h
 | j7 t _=>intro n b ls a w aq; cases n <;> simp [QY] at aq
 | acto i t ih=>
  intro n b ls a w aq hD hS h
  cases n with
  | zero=>simp [QY] at aq
  | succ n=>
   simp only [QY,LJ,beq_iff_eq] at aq
   refine ⟨fun h0=>(by rw [aq.1.1] at h0; cases h0),fun j hj=>?_⟩
   have hd:=hD.set hj
   rw [aq.1.1] at hj
   cases Lf.1 hj
   refine ga.mono h fun a' w' h'=>?_
   obtain ⟨Y,h'⟩:=h'
   exact ⟨(w',Y),fun hc=>(by rw [aq.1.2] at hc; cases hc),ih _ _ _ _ _ aq.2 hd (Ext.refl _ _) h'⟩
end
theorem Mh{P:Program}{r:Option Nat}{k:Ks}[cH k]{a:Act}{w:World}{c:Code}(t:Tr)(Y:Bs)(hm:P.follows .mixedOrders=true)
 (hc:(match c with | .region _ o d=>d&&QI o&&QY o o.size (Array.replicate o.size false) t | _=>false)=true)
 (h:∀ w',Ext Y w w'→w'.heap=w.heap→RW P r k (qh c) (some (w',Y)) t a w'):W P r c k a w:=by
 cases c <;> simp at hc
 rename_i id o d
 obtain ⟨⟨hd,hp⟩,ht⟩:=hc
 subst hd
 exact wpIn_region_any hm<|kL.wpAnyIn _ ({ w with drawn:=w.drawn+1 },Y) _ _ _ (RW.any hp t _ _ _ _ _ ht (Dc.start _) (Ext.refl _ _) (h _ (Ext.drew w) rfl))
end Go.Cx
namespace Go.Cx
open Go
def look:List (Nat×Value)→Nat→Option Value
 | [],_=>none
 | (k,v)::r,i=>bif Nat.beq k i then some v else look r i
def ev(S:List (Nat×Value)):Operand→Option Value
 | .tmp t=>look S t
 | .const v=>some v
 | .global g=>some (.pointer (some ⟨g,0,none⟩))
 | .func f=>some (.func (.func f) #[] #[])
def fL(S:List (Nat×Value)):List Operand→Option (List Value)
 | []=>some []
 | x::r=>match ev S x with
  | none=>none
  | some v=>match fL S r with
   | none=>none
   | some vs=>some (v::vs)
structure Fr(a:Act)(n:Nat)(D:List Deferred)(S:List (Nat×Value)):Prop where
 size:a.tmps.size=n
 defers:a.defers=D
 get:∀ i v,look S i=some v→a.tmps[i]?=some v
section
variable {a:Act}{n:Nat}{D:List Deferred}{S:List (Nat×Value)}
theorem Fr.eval(h:Fr a n D S){x:Operand}{v:Value}(hx:ev S x=some v):a.eval x=v:=by
 cases x with
 | tmp t=>have:=h.get t v hx; simp [Act.eval,Array.getD_eq_getD_getElem?,this]
 | const c=>exact Option.some.inj hx
 | global g=>exact Option.some.inj hx
 | func f=>exact Option.some.inj hx
theorem Fr.kN(h:Fr a n D S){xs:List Operand}{vs:List Value}(hx:fL S xs=some vs):xs.map a.eval=vs:=by
 induction xs generalizing vs with
 | nil=>simpa [fL] using hx
 | cons x r ih=>
  simp only [fL] at hx
  split at hx
  · cases hx
  · rename_i v hv
    split at hx
    · cases hx
    · rename_i ZU Fs
      cases hx
      simp [h.eval hv,ih Fs]
theorem Fr.put(h:Fr a n D S){d:Nat}(v:Value)(hd:Nat.blt d n=true):Fr (a.put (some d) v) n D ((d,v)::S):=by
 have hd':d<n:=by simpa using hd
 refine ⟨by simp [Act.put,h.size],h.defers,fun i u hi=>?_⟩
 simp only [look] at hi
 by_cases e:Nat.beq d i=true
 · simp only [e,cond_true,Option.some.injEq] at hi
   have:d=i:=by simpa using e
   subst this
   simp [Act.put,h.size,hd',hi]
 · have e':Nat.beq d i=false:=Bool.eq_false_iff.2 e
   simp only [e',cond_false] at hi
   have bO:d≠i:=fun hh=>by subst hh; simp at e'
   simp [Act.put,Array.getElem?_setIfInBounds_ne bO,h.get i u hi]
def eJ:Nat→List Value→List (Nat×Value)
 | _,[]=>[]
 | i,v::r=>(i,v)::eJ (i+1) r
theorem kO:∀ (l:List Value) (i j:Nat) (v:Value),look (eJ i l) j=some v→i≤j∧l[j-i]?=some v
 | [],_,_,_,h=>by simp [eJ,look] at h
 | u::r,i,j,v,h=>by
  simp only [eJ,look] at h
  by_cases e:Nat.beq i j=true
  · have:i=j:=by simpa using e
    subst this
    simp at h
    simp [h]
  · have e':Nat.beq i j=false:=Bool.eq_false_iff.2 e
    simp only [e',cond_false] at h
    obtain ⟨h1,h2⟩:=kO r (i+1) j v h
    refine ⟨Ta,?_⟩
    rw [show j-i=(j-(i+1))+1 by omega]
    simpa using h2
theorem Fr.init(l:List Value)(n:Nat)(hn:l.length≤n):Fr { tmps:=l.toArray++Array.replicate (n-l.toArray.size) undef,defers:=[] } n [] (eJ 0 l):=by
 refine ⟨by simp; omega,rfl,fun i v h=>?_⟩
 obtain ⟨_,h2⟩:=kO l 0 i v h
 rw [Nat.sub_zero] at h2
 have aX:i<l.length:=(Le.1 h2).1
 simpa [Array.getElem?_append,aX] using (Le.1 h2).2
theorem Fr.sub(h:Fr a n D S){T:List (Nat×Value)}(hT:∀ i v,look T i=some v→look S i=some v):Fr a n D T:=
 ⟨h.size,h.defers,fun i v hi=>h.get i v (hT i v hi)⟩
end
inductive ag where
 | row (t:TypeId) (l:List Value)
 | obj (o:Obj)
 | gap
def ag.Jd:ag→Obj
 | .row t l=>.cells ⟨l⟩ t (0,0)
 | .obj o=>o
 | .gap=>.deferred none
def ag.real:ag→Bool
 | .gap=>false
 | _=>true
def nth:List Value→Nat→Option Value
 | [],_=>none
 | v::_,0=>some v
 | _::r,n+1=>nth r n
def za:List Value→Nat→Value→List Value
 | [],_,_=>[]
 | _::r,0,u=>u::r
 | v::r,n+1,u=>v::za r n u
def eP(l:List Value)(o:Nat):Nat→Option (List Value)
 | 0=>some []
 | m+1=>match nth l o with
  | none=>none
  | some v=>match eP l (o+1) m with
   | none=>none
   | some r=>some (v::r)
def aU(l:List Value)(o:Nat):List Value→List Value
 | []=>l
 | u::r=>aU (za l o u) (o+1) r
def aR:List (Nat×ag)→Nat→Option (Nat×ag)
 | [],_=>none
 | b::_,0=>some b
 | _::r,k+1=>aR r k
def Qr:List (Nat×ag)→Nat→ag→List (Nat×ag)
 | [],_,_=>[]
 | (n,_)::r,0,x=>(n,x)::r
 | b::r,k+1,x=>b::Qr r k x
def QQ:List (Nat×ag)→Nat→Nat×ag→List (Nat×ag)
 | [],_,_=>[]
 | _::r,0,q=>q::r
 | b::r,k+1,q=>b::QQ r k q
def ak(L:List (Nat×ag)):List Nat:=(L.filter (·.2.real)).map (·.1)
theorem XN:∀ (l:List Value) (i:Nat),nth l i=l[i]?
 | [],_=>by simp [nth]
 | v::r,0=>by simp [nth]
 | v::r,i+1=>by simp [nth,XN r i]
theorem Yg:∀ (l:List Value) (i:Nat) (u:Value),za l i u=l.set i u
 | [],_,_=>by simp [za]
 | v::r,0,u=>by simp [za]
 | v::r,i+1,u=>by simp [za,Yg r i u]
theorem Q2:∀ (us l:List Value) (o:Nat),(aU l o us).length=l.length
 | [],_,_=>rfl
 | u::r,l,o=>by simp [aU,Q2 r,Yg]
theorem kP:∀ (L:List (Nat×ag)) (k:Nat),aR L k=L[k]?
 | [],_=>by simp [aR]
 | v::r,0=>by simp [aR]
 | v::r,i+1=>by simp [aR,kP r i]
theorem Qs(q:Nat×ag)(L:List (Nat×ag)):ak (q::L)=if q.2.real=true then q.1::ak L else ak L:=by
 unfold ak
 by_cases h:q.2.real=true <;> simp [h]
theorem JD{n:Nat}{L:List (Nat×ag)}:n∈ak L↔∃ b,(n,b)∈L∧b.real=true:=by
 simp only [ak,Ln,L5]
 constructor
 · rintro ⟨⟨m,b⟩,⟨h1,h2⟩,rfl⟩; exact ⟨b,h1,h2⟩
 · rintro ⟨b,h1,h2⟩; exact ⟨(n,b),⟨h1,h2⟩,rfl⟩
theorem kQ:∀ (L:List (Nat×ag)) (k n:Nat) (b x:ag),aR L k=some (n,b)→b.real=x.real→ak (Qr L k x)=ak L
 | [],_,_,_,_,h,_=>by simp [aR] at h
 | (m,c)::r,0,n,b,x,h,hb=>by
  simp only [aR,Option.some.injEq,Prod.mk.injEq] at h
  obtain ⟨rfl,rfl⟩:=h
  simp only [Qr,Qs,hb]
 | (m,c)::r,k+1,n,b,x,h,hb=>by
  simp only [aR] at h
  simp only [Qr,Qs,kQ r k n b x h hb]
structure Mem(w0 w:World)(X:Bs)(L:List (Nat×ag)):Prop where
 os:w.os=w0.os
 tape:w.tape=w0.tape
 output:w.output=w0.output
 size:w0.heap.size≤w.heap.size
 same:∀ k,k<w0.heap.size→¬ X k→w.heap[k]?=w0.heap[k]?
 own:∀ p,p∈L→p.2.real=true→w.heap[p.1]?=some p.2.Jd
 fresh:∀ p,p∈L→p.2.real=true→X p.1∨w0.heap.size≤p.1
 nodup:(ak L).Nodup
section
variable {w0 w w':World}{X:Bs}{L:List (Nat×ag)}
theorem Mem.start(w:World):Mem w w No []:=⟨rfl,rfl,rfl,LP _,fun _ _ _=>rfl,Tc,Tc,by simp [ak]⟩
theorem Mem.to(h:Mem w0 w X L):Ext X w0 w:=⟨h.os,h.tape,h.output,h.size,h.same⟩
theorem Js{k n:Nat}{b:ag}(hk:aR L k=some (n,b)):(n,b)∈L:=Ld ((kP L k).symm.trans hk)
theorem Mem.nV(h:Mem w0 w X L){k:Nat}{n:Nat}{b:ag}(hk:aR L k=some (n,b))(hr:b.real=true):w.heap[n]?=some b.Jd:=h.own (n,b) (Js hk) hr
theorem Mem.get(h:Mem w0 w X L){k:Nat}{n:Nat}{b:ag}(hk:aR L k=some (n,b))(hr:b.real=true:=by rfl):w.heap[n]?=some b.Jd:=h.nV hk hr
theorem Mem.lt(h:Mem w0 w X L){p:Nat×ag}(hp:p∈L)(hr:p.2.real=true:=by rfl):p.1<w.heap.size:=(Lb.1 (h.own p hp hr)).1
theorem Mem.ext(h:Mem w0 w X L)(hx:Ext No w w'):Mem w0 w' X L:=
 ⟨hx.os.trans h.os,hx.tape.trans h.tape,hx.output.trans h.output,Ki h.size hx.size,
  fun k hk hX=>(hx.same k (Nat.lt_of_lt_of_le hk h.size) id).trans (h.same k hk hX),
  fun p hp hr=>(hx.same p.1 (h.lt hp hr) id).trans (h.own p hp hr),h.fresh,h.nodup⟩
theorem Mem.alloc(h:Mem w0 w X L)(b:ag):Mem w0 (w.alloc b.Jd) X ((w.heap.size,b)::L):=by
 have ho:∀ k,k<w.heap.size→(w.alloc b.Jd).heap[k]?=w.heap[k]?:=fun k hk=>by
  show (w.heap.push _)[k]?=_
  rw [Array.getElem?_push,LH Ta]
 refine ⟨h.os,h.tape,h.output,by have:=h.size; simp; omega,fun k hk hX=>(ho k (Nat.lt_of_lt_of_le hk h.size)).trans (h.same k hk hX),fun p hp hr=>?_,fun p hp hr=>?_,?_⟩
 · rcases LR.1 hp with rfl | hp
   · show (w.heap.push _)[w.heap.size]?=_
     simp
   · exact (ho _ (h.lt hp hr)).trans (h.own p hp hr)
 · rcases LR.1 hp with rfl | hp
   · exact .inr h.size
   · exact h.fresh p hp hr
 · rw [Qs]
   split
   · rw [List.nodup_cons]
     refine ⟨fun hm=>?_,h.nodup⟩
     obtain ⟨c,hc,hr⟩:=JD.1 hm
     have:=h.lt hc hr
     simp only at this
     omega
   · exact h.nodup
theorem Mem.JP(h:Mem w0 w X L):Mem w0 w X ((0,.gap)::L):=
 ⟨h.os,h.tape,h.output,h.size,h.same,fun p hp hr=>(LR.1 hp).elim (fun e=>by subst e; cases hr) fun hp=>h.own p hp hr,fun p hp hr=>(LR.1 hp).elim (fun e=>by subst e; cases hr) fun hp=>h.fresh p hp hr,
  by rw [Qs]; exact h.nodup⟩
theorem kR:∀ (L:List (Nat×ag)) (k n:Nat) (b x:ag),aR L k=some (n,b)→b.real=true→(ak L).Nodup→∀ p,p∈Qr L k x→p=(n,x)∨(p∈L∧(p.2.real=true→p.1≠n))
 | [],_,_,_,_,h,_,_,_,_=>by simp [aR] at h
 | (m,c)::r,0,n,b,x,h,hb,hn,p,hp=>by
  simp only [aR,Option.some.injEq,Prod.mk.injEq] at h
  obtain ⟨rfl,rfl⟩:=h
  simp only [Qr,LR] at hp
  rcases hp with rfl | hp
  · exact .inl rfl
  · refine .inr ⟨by simp [hp],fun hr e=>?_⟩
    rw [Qs,LI hb,List.nodup_cons] at hn
    exact hn.1 (JD.2 ⟨p.2,by rw [← e]; exact hp,hr⟩)
 | (m,c)::r,k+1,n,b,x,h,hb,hn,p,hp=>by
  simp only [aR] at h
  simp only [Qr,LR] at hp
  have hn':(ak r).Nodup:=by
   rw [Qs] at hn
   split at hn
   · exact (List.nodup_cons.1 hn).2
   · exact hn
  rcases hp with rfl | hp
  · refine .inr ⟨Tc,fun hr e=>?_⟩
    rw [Qs,LI hr,List.nodup_cons] at hn
    exact hn.1 (JD.2 ⟨b,by have e':m=n:=e; rw [e']; exact Js h,hb⟩)
  · rcases kR r k n b x h hb hn' p hp with h1 | ⟨h1,h2⟩
    · exact .inl h1
    · exact .inr ⟨by simp [h1],h2⟩
theorem Mem.set(h:Mem w0 w X L){k n:Nat}{b:ag}(hk:aR L k=some (n,b))(x:ag)(ho:w'.os=w.os)(ht:w'.tape=w.tape)(hu:w'.output=w.output)(hs:w'.heap.size=w.heap.size)
 (hn:w'.heap[n]?=some x.Jd) (hr:∀ j,j≠n→w'.heap[j]?=w.heap[j]?) (hb:b.real=true:=by rfl) (hx:x.real=true:=by rfl):Mem w0 w' X (Qr L k x):=by
 have cR:=Js hk
 refine ⟨ho.trans h.os,ht.trans h.tape,hu.trans h.output,by rw [hs]; exact h.size,fun j hj hX=>?_,fun p hp zb=>?_,fun p hp zb=>?_,by rw [kQ L k n b x hk (hb.trans hx.symm)]; exact h.nodup⟩
 · rw [hr j fun e=>?_]
   · exact h.same j hj hX
   · rcases h.fresh _ cR hb with h1 | h1
     · exact hX (e▸h1)
     · have e':j=n:=e; simp only at h1; omega
 · rcases kR L k n b x hk hb h.nodup p hp with rfl | ⟨h1,h2⟩
   · exact hn
   · rw [hr _ (h2 zb)]; exact h.own p h1 zb
 · rcases kR L k n b x hk hb h.nodup p hp with rfl | ⟨h1,_⟩
   · exact h.fresh (n,b) cR hb
   · exact h.fresh p h1 zb
end
theorem Mem.nt{w0 w:World}{X:Bs}{L:List (Nat×ag)}(h:Mem w0 w X L)(j:Nat){m:Nat}{b:ag}(hk:aR L j=some (m,b))(hr:b.real=true:=by rfl):∀ u,cN none w u→u.heap[m]?=some b.Jd:=fun u hu=>by cases hu; exact h.nV hk hr
theorem Mem.nd{w0 w b:World}{X Y:Bs}{L:List (Nat×ag)}(h:Mem w0 b X L)(j:Nat){m:Nat}{x:ag}(hk:aR L j=some (m,x))(hY:¬ Y m)(hr:x.real=true:=by rfl):∀ u,cN (some (b,Y)) w u→u.heap[m]?=some x.Jd:=fun _ hu=>
 (Ext.same hu m (h.lt (p:=(m,x)) (Js hk) hr) hY).trans (h.nV hk hr)
theorem X2:∀ (L:List (Nat×ag)) (i j m n:Nat) (b c:ag),(ak L).Nodup→aR L i=some (m,b)→aR L j=some (n,c)→b.real=true→c.real=true→i<j→m≠n
 | [],_,_,_,_,_,_,_,h,_,_,_,_=>by simp [aR] at h
 | (q,d)::r,0,j+1,m,n,b,c,hn,hi,hj,hb,hc,_=>by
  simp only [aR,Option.some.injEq,Prod.mk.injEq] at hi hj
  obtain ⟨rfl,rfl⟩:=hi
  rw [Qs,LI hb,List.nodup_cons] at hn
  intro e
  exact hn.1 (JD.2 ⟨c,by rw [e]; exact Js hj,hc⟩)
 | (q,d)::r,i+1,j+1,m,n,b,c,hn,hi,hj,hb,hc,aX=>by
  simp only [aR] at hi hj
  have hn':(ak r).Nodup:=by
   rw [Qs] at hn
   split at hn
   · exact (List.nodup_cons.1 hn).2
   · exact hn
  exact X2 r i j m n b c hn' hi hj hb hc Ta
 | _::_,_,0,_,_,_,_,_,_,_,_,_,h=>by omega
theorem Mem.ne{w0 w:World}{X:Bs}{L:List (Nat×ag)}(h:Mem w0 w X L)(i j:Nat){m n:Nat}{b c:ag}(hi:aR L i=some (m,b))(hj:aR L j=some (n,c))(eZ:Nat.beq i j=false)(hb:b.real=true:=by rfl)(hc:c.real=true:=by rfl):m≠n:=by
 rcases L7 i j with aX | iA
 · exact X2 L i j m n b c h.nodup hi hj hb hc aX
 · exact fun e=>X2 L j i n m c b h.nodup hj hi hc hb (by
    rcases Nat.lt_or_eq_of_le iA with h1 | h1
    · exact h1
    · subst h1; simp at eZ) e.symm
def HR(P:Program)(r:Option Nat)(k:Ks)(ops:Array Oper)(md:Md)(n:Nat)(D:List Deferred)(S:List (Nat×Value))(t:Tr)(w:World):Prop:=
 ∀ a,Fr a n D S→RW P r k ops md t a w
def HW(P:Program)(r:Option Nat)(c:Code)(k:Ks)(n:Nat)(D:List Deferred)(S:List (Nat×Value))(w:World):Prop:=
 ∀ a,Fr a n D S→W P r c k a w
def Ks.sq(k:Ks)(P:Program)(r:Option Nat)(c:Code):Ks:={ k with norm:=fun a w=>W P r c k a w }
def Ks.bl(k:Ks)(i:Nat):Ks:={ k with ex:=fun j a w=>if j=i then k.norm a w else k.ex j a w }
def Ks.lp{ι:Type}(k:Ks)(Sx:ι→List (Nat×Value))(M:ι→World→Prop)(μ:ι→Nat)(x:ι)(n:Nat)(D:List Deferred):Ks:={ k with norm:=fun a w=>∃ y,μ y<μ x∧M y w∧Fr a n D (Sx y) }
instance {k:Ks}[h:cH k]{P:Program}{r:Option Nat}{c:Code}:cH (k.sq P r c):=⟨h.put⟩
instance {k:Ks}[h:cH k]{i:Nat}:cH (k.bl i):=⟨h.put⟩
instance {ι:Type}{k:Ks}[h:cH k]{Sx:ι→List (Nat×Value)}{M:ι→World→Prop}{μ:ι→Nat}{x:ι}{n:Nat}{D:List Deferred}:cH (k.lp Sx M μ x n D):=⟨h.put⟩
def Ro(K:Act→World→Prop)(n:Nat)(D:List Deferred)(S:List (Nat×Value))(w:World):Prop:=∀ a,Fr a n D S→K a w
def GN(k:Ks)(n:Nat)(D:List Deferred)(S:List (Nat×Value))(w:World):Prop:=∀ a,Fr a n D S→k.norm a w
def GR(k:Ks)(n:Nat)(D:List Deferred)(S:List (Nat×Value))(w:World):Prop:=∀ a,Fr a n D S→k.ret a w
def GX(k:Ks)(i:Nat)(n:Nat)(D:List Deferred)(S:List (Nat×Value))(w:World):Prop:=∀ a,Fr a n D S→k.ex i a w
section
variable {P:Program}{r:Option Nat}{k:Ks}{c:Code}{n:Nat}{D:List Deferred}{S:List (Nat×Value)}{w:World}{i j:Nat}
theorem eK(h:Ro k.norm n D S w):GN k n D S w:=h
theorem dD(h:Ro k.ret n D S w):GR k n D S w:=h
theorem QV(h:HW P r c k n D S w):GN (k.sq P r c) n D S w:=h
theorem Rp(h:GN k n D S w):GN (k.bl i) n D S w:=h
theorem Rq(h:GR k n D S w):GR (k.sq P r c) n D S w:=h
theorem Rr(h:GR k n D S w):GR (k.bl i) n D S w:=h
theorem Ru(h:GX k i n D S w):GX (k.sq P r c) i n D S w:=h
theorem F4(h:GN k n D S w):GX (k.bl i) i n D S w:=fun a hf=>by
 show (if i=i then k.norm a w else k.ex i a w)
 rw [LI rfl]; exact h a hf
variable {ι:Type}{Sx:ι→List (Nat×Value)}{M:ι→World→Prop}{μ:ι→Nat}{x:ι}{m:Nat}{D':List Deferred}
theorem Rv(h:GR k n D S w):GR (k.lp Sx M μ x m D') n D S w:=h
theorem Rw(h:GX k i n D S w):GX (k.lp Sx M μ x m D') i n D S w:=h
end
def met(ops:Array Oper)(S:List (Nat×Value)):Option (Nat×Bool)→Bool
 | none=>true
 | some (g,b)=>match ops[g]? with
  | some og=>match og.dst with
   | some gd=>match look S gd with | some (.bool c)=>(match c,b with | true,true=>true | false,false=>true | _,_=>false) | _=>false
   | none=>false
  | none=>false
def eL(ops:Array Oper)(S:List (Nat×Value))(i:Nat):Option (Oper×Nat):=
 match ops[i]? with
 | some o=>match met ops S o.guard,o.dst with | true,some d=>some (o,d) | _,_=>none
 | none=>none
def j7(ops:Array Oper)(S:List (Nat×Value))(i:Nat):Option Oper:=
 match ops[i]? with
 | some o=>match met ops S o.guard,o.dst with | true,none=>some o | _,_=>none
 | none=>none
def BA(ops:Array Oper)(i:Nat):Option (Oper×Nat×Nat×Bool):=
 match ops[i]? with
 | some o=>match o.guard,o.dst with
  | some (g,b),some d=>match ops[g]? with
   | some og=>match og.dst with | some gd=>some (o,d,gd,b) | none=>none
   | none=>none
  | _,_=>none
 | none=>none
theorem sd{ops:Array Oper}{a:Act}{n:Nat}{D:List Deferred}{S:List (Nat×Value)}{o:Oper}(h:met ops S o.guard=true)(hf:Fr a n D S):Region.wanted o (yielded ops a.tmps)=true:=by
 unfold met at h
 split at h
 · rename_i hg; simp [Region.wanted,hg]
 · rename_i g b hg
   split at h
   · rename_i og oG
     split at h
     · rename_i gd rW
       split at h
       · rename_i c hl
         have:=hf.get gd _ hl
         have Be:c=b:=by cases c <;> cases b <;> simp_all
         simp [Region.wanted,hg,yielded,oG,rW,this,Be]
       · cases h
     · cases h
   · cases h
theorem V4{ops:Array Oper}{a:Act}{n:Nat}{D:List Deferred}{S:List (Nat×Value)}{i:Nat}{o:Oper}{d:Nat}(h:eL ops S i=some (o,d))(hf:Fr a n D S):ops[i]?=some o∧Region.wanted o (yielded ops a.tmps)=true∧o.dst=some d:=by
 unfold eL at h
 split at h
 · rename_i o' ho
   split at h
   · rename_i hg hd; cases h; exact ⟨ho,sd hg hf,hd⟩
   · cases h
 · cases h
theorem YH{ops:Array Oper}{a:Act}{n:Nat}{D:List Deferred}{S:List (Nat×Value)}{i:Nat}{o:Oper}(h:j7 ops S i=some o)(hf:Fr a n D S):ops[i]?=some o∧Region.wanted o (yielded ops a.tmps)=true∧o.dst=none:=by
 unfold j7 at h
 split at h
 · rename_i o' ho
   split at h
   · rename_i hg hd; cases h; exact ⟨ho,sd hg hf,hd⟩
   · cases h
 · cases h
theorem YI{ops:Array Oper}{i:Nat}{o:Oper}{d gd:Nat}{b:Bool}(h:BA ops i=some (o,d,gd,b)):ops[i]?=some o∧o.dst=some d∧∃ g og,o.guard=some (g,b)∧ops[g]?=some og∧og.dst=some gd:=by
 unfold BA at h
 split at h
 · rename_i o' ho
   split at h
   · rename_i g b' d' hg hd
     split at h
     · rename_i og oG
       split at h
       · rename_i gd' rW; cases h; exact ⟨ho,hd,g,og,hg,oG,rW⟩
       · cases h
     · cases h
   · cases h
 · cases h
section
variable {P:Program}{r:Option Nat}{k:Ks}{ops:Array Oper}{md:Md}{n:Nat}{D:List Deferred}{S:List (Nat×Value)}{w:World}
theorem iE{a:Act}{o:Oper}{g gd:Nat}{b c:Bool}{og:Oper}(hf:Fr a n D S)(hg:o.guard=some (g,b))(oG:ops[g]?=some og)(rW:og.dst=some gd)(hl:look S gd=some (.bool c)) :
 Region.wanted o (yielded ops a.tmps)=(c==b):=by
 have:=hf.get gd _ hl
 simp [Region.wanted,hg,yielded,oG,rW,this]
def gv(c b:Bool)(v:Value):Value:=bif (c==b) then v else undef
theorem Qc(h:GN k n D S w):HR P r k ops md n D S .done w:=h
theorem Ja{i:Nat}{t:Tr}{o:Oper}{d:Nat}{v:Value}(ho:eL ops S i=some (o,d))(hd:Nat.blt d n=true)(hy:∀ a,Fr a n D S→Yl P md w a o v)
 (h:HR P r k ops md n D ((d,v)::S) t w):HR P r k ops md n D S (.pure i t) w:=fun a hf=>by
 obtain ⟨h1,h2,h3⟩:=V4 ho hf
 refine ⟨o,v,h1,⟨fun _=>hy a hf,fun hw=>by rw [h2] at hw; cases hw⟩,?_⟩
 rw [h3]
 exact h _ (hf.put v hd)
theorem JK{i:Nat}{t:Tr}{o:Oper}{d gd:Nat}{b c:Bool}{v:Value}(ho:BA ops i=some (o,d,gd,b))(hl:look S gd=some (.bool c))(hd:Nat.blt d n=true)(hy:c=b→∀ a,Fr a n D S→Yl P md w a o v)
 (h:HR P r k ops md n D ((d,gv c b v)::S) t w):HR P r k ops md n D S (.pure i t) w:=fun a hf=>by
 obtain ⟨h1,h3,g,og,hg,oG,rW⟩:=YI ho
 have hw:=iE (ops:=ops) hf hg oG rW hl
 refine ⟨o,gv c b v,h1,⟨fun hh=>?_,fun hh=>?_⟩,?_⟩
 · rw [hw] at hh
   have:gv c b v=v:=by simp [gv,hh]
   rw [this]
   exact hy (by simpa using hh) a hf
 · rw [hw] at hh
   simp [gv,hh]
 · rw [h3]
   exact h _ (hf.put _ hd)
theorem oH{a:Act}{o:Oper}{g gd:Nat}{b b' c d:Bool}{og:Oper}(hf:Fr a n D S)(hg:o.guard=some (g,b'))(oG:ops[g]?=some og)(rW:og.dst=some gd)(hl:look S gd=some (gv c b (.bool d))) :
 Region.wanted o (yielded ops a.tmps)=(c==b&&d==b'):=by
 have:=hf.get gd _ hl
 by_cases h:c=b
 · simp [Region.wanted,hg,yielded,oG,rW,this,gv,h]
 · have e:(c==b)=false:=by simpa using h
   simp [Region.wanted,hg,yielded,oG,rW,this,gv,e,undef]
theorem YD{i:Nat}{t:Tr}{o:Oper}{dd gd:Nat}{b b' c d:Bool}{v:Value}(ho:BA ops i=some (o,dd,gd,b'))(hl:look S gd=some (gv c b (.bool d)))(hd:Nat.blt dd n=true)(hy:(c==b&&d==b')=true→∀ a,Fr a n D S→Yl P md w a o v)
 (h:HR P r k ops md n D ((dd,gv (c==b&&d==b') true v)::S) t w):HR P r k ops md n D S (.pure i t) w:=fun a hf=>by
 obtain ⟨h1,h3,g,og,hg,oG,rW⟩:=YI ho
 have hw:=oH (ops:=ops) hf hg oG rW hl
 refine ⟨o,gv (c==b&&d==b') true v,h1,⟨fun hh=>?_,fun hh=>?_⟩,?_⟩
 · rw [hw] at hh
   have:gv (c==b&&d==b') true v=v:=by simp only [gv,hh]; rfl
   rw [this]
   exact hy hh a hf
 · rw [hw] at hh
   simp only [gv,hh]; rfl
 · rw [h3]
   exact h _ (hf.put _ hd)
theorem Rx{i:Nat}{t:Tr}{o:Oper}{d gd:Nat}{b c:Bool}(ho:BA ops i=some (o,d,gd,b))(hl:look S gd=some (.bool c))(hc:c≠b)(hd:Nat.blt d n=true)
 (h:HR P r k ops md n D ((d,undef)::S) t w):HR P r k ops md n D S (.pure i t) w:=by
 have e:(c==b)=false:=by simpa using hc
 refine JK (v:=undef) ho hl hd (fun hh=>absurd hh hc) ?_
 have:gv c b undef=undef:=by simp [gv]
 rw [this]; exact h
end
end Go.Cx
namespace Go.Cx
open Go
def qi(P:Program)(t:TypeId):Bool:=match P.underlying t with | some (.struct _)=>false | some (.array _ _)=>false | some _=>true | none=>false
def nW(P:Program)(t:TypeId):Option Nat:=match P.underlying t,P.info? t with
 | some (.struct _),some i=>some i.size
 | some (.array _ _),some i=>some i.size
 | _,_=>none
def gj(P:Program)(t:TypeId):Option Nat:=(P.info? t).map (·.size)
def Mi(P:Program)(s f:Nat):Option Nat:=match P.underlying s with
 | some (.struct fs)=>match fs[f]? with
  | some fd=>match P.info? fd.type with | some i=>if i.size=0 then none else some fd.offset | none=>none
  | none=>none
 | _=>none
def iF(P:Program)(t:TypeId):Option (List Value):=(P.info? t).bind fun i=>i.zero.map fun v=>v.cells.toList
def QH(P:Program)(t:TypeId):Option (TypeId×Nat×Nat):=match P.underlying t with
 | some (.slice e)=>match P.info? e with | some i=>some (e,i.size,i.bytes) | none=>none
 | _=>none
def kS(P:Program)(t:TypeId):Option IntKind:=match P.underlying t with | some (.int k)=>some k | _=>none
def qj(P:Program)(t:TypeId):Option (Nat×TypeId×Nat):=match P.underlying t with
 | some (.array n e)=>match P.info? e with | some i=>some (n,e,i.size) | none=>none
 | _=>none
section
variable {P:Program}{w:World}
theorem JC{t:TypeId}{d:TypeDesc}(h:P.underlying t=some d):(underlying t).run P w=.ok d w:=run_underlying h w
theorem YE{t:TypeId}(h:qi P t=true):(isAgg t).run P w=.ok false w:=by
 unfold qi at h
 cases hu:P.underlying t with
 | none=>simp [hu] at h
 | some d=>
  simp only [isAgg,Sem.run_bind,JC hu,Result.andThen_ok]
  cases d <;> simp [hu] at h ⊢
theorem jm{t:TypeId}{m:Nat}(h:nW P t=some m):(isAgg t).run P w=.ok true w:=by
 unfold nW at h
 cases hu:P.underlying t with
 | none=>simp [hu] at h
 | some d=>
  simp only [isAgg,Sem.run_bind,JC hu,Result.andThen_ok]
  cases d <;> simp [hu] at h ⊢
theorem se{t:TypeId}{m:Nat}(h:nW P t=some m):gj P t=some m:=by
 unfold nW at h
 unfold gj
 cases hu:P.underlying t with
 | none=>simp [hu] at h
 | some d=>
  cases hi:P.info? t with
  | none=>cases d <;> simp [hu,hi] at h
  | some i=>cases d <;> simp [hu,hi] at h <;> simp [h]
theorem gk{t:TypeId}{m:Nat}(h:gj P t=some m):(sizeOf t).run P w=.ok m w:=by
 unfold gj at h
 cases hi:P.info? t with
 | none=>simp [hi] at h
 | some i=>
  simp [hi] at h
  simp [sizeOf,typeInfo,hi,h]
theorem XH{t:TypeId}{l:List Value}(h:iF P t=some l):∃ v,(zeroValue t).run P w=.ok v w∧v.cells=⟨l⟩:=by
 unfold iF at h
 cases hi:P.info? t with
 | none=>simp [hi] at h
 | some i=>
  cases hz:i.zero with
  | none=>simp [hi,hz] at h
  | some v=>
   simp [hi,hz] at h
   refine ⟨v,by simp [zeroValue,typeInfo,hi,hz],?_⟩
   subst h
   simp
theorem VH{n off:Nat}{e:TypeId}{l:List Value}(h:w.heap[n]?=some (ag.row e l).Jd):w.cell? ⟨n,off,none⟩=l[off]?:=by
 simp [World.cell?,h,ag.Jd]
theorem VX{n off:Nat}{e:TypeId}{l:List Value}(h:w.heap[n]?=some (ag.row e l).Jd):w.frozen? ⟨n,off,none⟩=false:=by
 simp [World.frozen?,h,ag.Jd]
theorem kT:∀ (m o:Nat) (l vs:List Value),eP l o m=some vs→vs.length=m∧∀ j v,vs[j]?=some v→l[o+j]?=some v
 | 0,o,l,vs,h=>by simp [eP] at h; subst h; simp
 | m+1,o,l,vs,h=>by
  simp only [eP] at h
  split at h
  · cases h
  · rename_i v hv
    split at h
    · cases h
    · rename_i r hr
      cases h
      obtain ⟨h1,h2⟩:=kT m (o+1) l r hr
      refine ⟨by simp [h1],fun j u hj=>?_⟩
      cases j with
      | zero=>simp at hj; subst hj; rw [XN] at hv; simpa using hv
      | succ j=>simp at hj; rw [show o+(j+1)=(o+1)+j by omega]; exact h2 j u hj
theorem JN{n off:Nat}{t e:TypeId}{l:List Value}{v:Value}(hs:qi P t=true)(h:w.heap[n]?=some (ag.row e l).Jd)(hv:nth l off=some v) :
 (loadVar t ⟨n,off,none⟩).run P w=.ok v w:=by
 have hc:w.cell? ⟨n,off,none⟩=some v:=by rw [VH h,← XN]; exact hv
 simp [loadVar,YE hs,hc]
theorem Ju{n off m:Nat}{t e:TypeId}{l vs:List Value}(hs:nW P t=some m)(h:w.heap[n]?=some (ag.row e l).Jd)(hv:eP l off m=some vs) :
 (loadVar t ⟨n,off,none⟩).run P w=.ok (.agg ⟨vs⟩) w:=by
 obtain ⟨h1,h2⟩:=kT m off l vs hv
 have hl:(loadCells ⟨n,off,none⟩ m).run P w=.ok ⟨vs⟩ w:=by
  rw [← h1]
  refine (run_loadCells_list (P:=P) w ⟨n,off,none⟩ vs fun j v hj=>?_)
  have:=h2 j v hj
  rw [← VH h] at this
  by_cases fT:j=0
  · subst fT; simpa [Addr.add] using this
  · simpa [Addr.add,fT] using this
 simp [loadVar,jm hs,gk (se hs),hl]
end
section
variable {P:Program}{md:Md}{w:World}{n:Nat}{D:List Deferred}{S:List (Nat×Value)}{dst:Option Tmp}{ty:TypeId}{pos:String}{af:Array Edge}{g:Option (Nat×Bool)}
theorem Jx{x:Operand}{v:Value}(hx:ev S x=some v):∀ a,Fr a n D S→Yl P md w a ⟨dst,.move x,ty,pos,af,g⟩ v:=fun a hf u _=>by
 simp [execOp,hf.eval hx]
theorem J4{x:Operand}{v:Value}(hx:ev S x=some v):∀ a,Fr a n D S→Yl P md w a ⟨dst,.assign x,ty,pos,af,g⟩ v:=fun a hf u _=>by
 simp [execOp,hf.eval hx]
theorem BC{c x y:Operand}{b:Bool}{vx vy v:Value}(hc:ev S c=some (.bool b))(hx:ev S x=some vx)(hy:ev S y=some vy)(hv:(bif b then vx else vy)=v) :
 ∀ a,Fr a n D S→Yl P md w a ⟨dst,.pick c x y,ty,pos,af,g⟩ v:=fun a hf u _=>by
 subst hv
 cases b <;> simp [execOp,hf.eval hc,hf.eval hx,hf.eval hy,asBool]
theorem kU{c x y:Operand}{b d:Bool}(hc:ev S c=some (.bool b))(hx:ev S x=some (gv b true (.bool d)))(hy:ev S y=some (.bool false)) :
 ∀ a,Fr a n D S→Yl P md w a ⟨dst,.pick c x y,ty,pos,af,g⟩ (.bool (b&&d)):=BC hc hx hy (by cases b <;> simp [gv])
theorem sh{c x y:Operand}{b d:Bool}(hc:ev S c=some (.bool b))(hx:ev S x=some (.bool true))(hy:ev S y=some (gv b false (.bool d))) :
 ∀ a,Fr a n D S→Yl P md w a ⟨dst,.pick c x y,ty,pos,af,g⟩ (.bool (b||d)):=BC hc hx hy (by cases b <;> simp [gv])
theorem Jh{t e:TypeId}{x:Operand}{m off:Nat}{l:List Value}{v:Value}(hx:ev S x=some (.pointer (some ⟨m,off,none⟩)))(hs:qi P t=true)
 (hN:∀ u,cN md w u→u.heap[m]?=some (ag.row e l).Jd) (hv:nth l off=some v):∀ a,Fr a n D S→Yl P md w a ⟨dst,.load t x,ty,pos,af,g⟩ v:=fun a hf u hu=>by
 simp [execOp,hf.eval hx,Instr.loadAt,Instr.sureAddr,JN hs (hN u hu) hv]
theorem Jm{t e:TypeId}{x:Operand}{m off s:Nat}{l vs:List Value}(hx:ev S x=some (.pointer (some ⟨m,off,none⟩)))(hs:nW P t=some s)
 (hN:∀ u,cN md w u→u.heap[m]?=some (ag.row e l).Jd) (hv:eP l off s=some vs):∀ a,Fr a n D S→Yl P md w a ⟨dst,.load t x,ty,pos,af,g⟩ (.agg ⟨vs⟩):=fun a hf u hu=>by
 simp [execOp,hf.eval hx,Instr.loadAt,Instr.sureAddr,Ju hs (hN u hu) hv]
theorem F5{t:TypeId}{x:Operand}{ad:Addr}{v:Value}(hx:ev S x=some (.pointer (some ad)))(hs:qi P t=true)
 (hc:∀ u,cN md w u→u.cell? ad=some v):∀ a,Fr a n D S→Yl P md w a ⟨dst,.load t x,ty,pos,af,g⟩ v:=fun a hf u hu=>by
 simp [execOp,hf.eval hx,Instr.loadAt,Instr.sureAddr,loadVar,YE hs,hc u hu]
theorem si{t:TypeId}{x:Operand}{m off s:Nat}{vs:List Value}(hx:ev S x=some (.pointer (some ⟨m,off,none⟩)))(hs:nW P t=some s)(hl:vs.length=s)
 (hc:∀ u,cN md w u→∀ j v,vs[j]?=some v→u.cell? ⟨m,off+j,none⟩=some v):∀ a,Fr a n D S→Yl P md w a ⟨dst,.load t x,ty,pos,af,g⟩ (.agg ⟨vs⟩):=fun a hf u hu=>by
 have h1:(loadCells ⟨m,off,none⟩ s).run P u=.ok ⟨vs⟩ u:=by
  subst hl
  refine (run_loadCells_list (P:=P) u ⟨m,off,none⟩ vs fun j v hj=>?_)
  have:=hc u hu j v hj
  by_cases fT:j=0
  · subst fT; simpa [Addr.add] using this
  · simpa [Addr.add,fT] using this
 simp [execOp,hf.eval hx,Instr.loadAt,Instr.sureAddr,loadVar,jm hs,gk (se hs),h1]
theorem oI{x:Operand}{ad:Addr}(hx:ev S x=some (.pointer (some ad))):∀ a,Fr a n D S→Yl P md w a ⟨dst,.nilCheck x,ty,pos,af,g⟩ (.pointer (some ad)):=fun a hf u _=>by
 simp [execOp,hf.eval hx]
theorem Jv{s fi:Nat}{x:Operand}{m off fo:Nat}(hx:ev S x=some (.pointer (some ⟨m,off,none⟩)))(vB:Mi P s fi=some fo) :
 ∀ a,Fr a n D S→Yl P md w a ⟨dst,.fieldAddr s x fi,ty,pos,af,g⟩ (.pointer (some ⟨m,off+fo,none⟩)):=fun a hf u _=>by
 unfold Mi at vB
 cases hu:P.underlying s with
 | none=>simp [hu] at vB
 | some d=>
  cases d <;> simp [hu] at vB
  rename_i fs
  cases qk:fs[fi]? with
  | none=>simp [qk] at vB
  | some fd=>
   cases hi:P.info? fd.type with
   | none=>simp [qk,hi] at vB
   | some i=>
    simp [qk,hi] at vB
    obtain ⟨h1,h2⟩:=vB
    have hsz:(sizeOf fd.type).run P u=.ok i.size u:=by simp [sizeOf,typeInfo,hi]
    subst h2
    by_cases h0:fd.offset=0
    · simp [execOp,hf.eval hx,Instr.fieldAt,Instr.sureAddr,JC hu,qk,fieldPlace,hsz,h1,Addr.add,h0]
    · simp [execOp,hf.eval hx,Instr.fieldAt,Instr.sureAddr,JC hu,qk,fieldPlace,hsz,h1,Addr.add,h0]
theorem J7{x:Operand}{vs:Array Value}{i:Nat}{v:Value}(hx:ev S x=some (.tuple vs))(hv:vs[i]?=some v) :
 ∀ a,Fr a n D S→Yl P md w a ⟨dst,.extract x i,ty,pos,af,g⟩ v:=fun a hf u _=>by
 simp [execOp,hf.eval hx,Instr.extract,hv]
def BD(P:Program)(t:TypeId):Option (List (Nat×Nat)):=match P.underlying t with
 | some (.struct fs)=>fs.toList.mapM fun f=>(P.info? f.type).map fun i=>(f.offset,i.size)
 | some (.array n e)=>(P.info? e).map fun i=>(List.range n).map fun j=>(j*i.size,i.size)
 | _=>none
def iG(v:Value):List Value:=v.cells.toList
def fU(fs:List (Nat×Nat)):List Value→List (Nat×Value)→List Value
 | l,[]=>l
 | l,(i,v)::r=>fU fs (aU l ((fs[i]?.getD (0,0)).1) (iG v)) r
def okB(fs:List (Nat×Nat))(len:Nat):List (Nat×Value)→Bool
 | []=>true
 | (i,v)::r=>match fs[i]? with
  | some (o,s)=>Nat.beq (iG v).length s&&Nat.ble (o+s) len&&okB fs len r
  | none=>false
theorem oJ:∀ (us:List Value) (l:List Value) (o k:Nat),((us.zipIdx k).foldl (fun (cs:Array Value) (x:Value×Nat)=>cs.setIfInBounds (o+x.2) x.1) ⟨l⟩)=⟨aU l (o+k) us⟩
 | [],l,o,k=>rfl
 | u::r,l,o,k=>by
  simp only [List.zipIdx_cons,List.foldl_cons,aU]
  rw [show (⟨l⟩:Array Value).setIfInBounds (o+k) u=⟨za l (o+k) u⟩ by rw [Yg]; apply Array.ext'; simp]
  rw [oJ r _ o (k+1)]
  rfl
theorem gn(fs:List (Nat×Nat))(place:Nat→Option (Nat×Nat))(hp:∀ (i:Nat) (x:Nat×Nat),fs[i]?=some x→place i=some x):∀ (ps:List (Nat×Value)) (l:List Value),okB fs l.length ps=true→Instr.fill place ⟨l⟩ ps=some ⟨fU fs l ps⟩
 | [],l,_=>rfl
 | (i,v)::r,l,h=>by
  simp only [okB] at h
  cases F6:fs[i]? with
  | none=>simp [F6] at h
  | some x=>
   obtain ⟨o,s⟩:=x
   simp only [F6,LJ,Nat.beq_eq,Nat.ble_eq] at h
   obtain ⟨⟨h1,h2⟩,h3⟩:=h
   simp only [Instr.fill,hp i _ F6,fU,F6,Option.getD_some]
   have hsz:v.cells.size=s:=by rw [← h1]; rfl
   rw [LH (by simp only [hsz,List.size_toArray,Bool.or_eq_true,LO,ne_eq,not_true_eq_false,false_or]; simp; omega)]
   have hf:v.cells.zipIdx.foldl (fun (cs:Array Value) (x:Value×Nat)=>cs.setIfInBounds (o+x.2) x.1) ⟨l⟩=⟨aU l o (iG v)⟩:=by
    rw [← Array.foldl_toList,Array.toList_zipIdx]
    exact oJ (iG v) l o 0
   have hlen:(aU l o (iG v)).length=l.length:=by
    have:∀ (us l:List Value) (o:Nat),(aU l o us).length=l.length:=fun us=>by
     induction us with
     | nil=>intro l o; rfl
     | cons u r ih=>intro l o; rw [aU,ih,Yg,List.length_set]
    exact this _ _ _
   have:=gn fs place hp r (aU l o (iG v)) (by rw [hlen]; exact h3)
   rw [← hf] at this
   exact this
theorem sj(P:Program)(w:World):∀ (l:List Field) (ps:List (Nat×Nat)),l.mapM (fun f=>(P.info? f.type).map fun i=>(f.offset,i.size))=some ps →
 (l.mapM (fun f=>(do pure (f.offset,← sizeOf f.type):Sem (Nat×Nat)))).run P w=.ok ps w
 | [],ps,h=>by simp at h; subst h; rfl
 | f::r,ps,h=>by
  simp only [List.mapM_cons,Option.bind_eq_bind,Option.pure_def] at h
  cases hi:P.info? f.type with
  | none=>simp [hi] at h
  | some i=>
   cases hr:r.mapM (fun f=>(P.info? f.type).map fun i=>(f.offset,i.size)) with
   | none=>simp [hi,hr] at h
   | some qs=>
    simp only [hi,hr,Option.map_some,Option.bind_some,Option.some.injEq] at h
    subst h
    have hsz:(sizeOf f.type).run P w=.ok i.size w:=by simp [sizeOf,typeInfo,hi]
    simp only [List.mapM_cons,Sem.run_bind,hsz,Result.andThen_ok,Sem.run_pure,sj P w r qs hr]
theorem gp:∀ (l pre:List Value),eP (pre++l) pre.length l.length=some l
 | [],_=>rfl
 | v::r,pre=>by
  have h1:nth (pre++v::r) pre.length=some v:=by rw [XN]; simp
  have h2:=gp r (pre++[v])
  simp only [Lp,List.singleton_append,Lc,Li,LA,LV] at h2
  simp only [Li,eP,h1,h2]
theorem iH{n:Nat}{D:List Deferred}{S:List (Nat×Value)}{a:Act}(hf:Fr a n D S){ps:Array (Nat×Operand)}{xs:List Operand}{is:List Nat}{vs:List Value}(xo:ps.toList.map (·.2)=xs)(F7:ps.toList.map (·.1)=is)(hx:fL S xs=some vs) :
 (ps.map fun (i,x)=>(i,a.eval x))=(is.zip vs).toArray:=by
 have h2:=hf.kN hx
 have key:∀ l:List (Nat×Operand),(l.map fun (i,x)=>(i,a.eval x))=(l.map (·.1)).zip ((l.map (·.2)).map a.eval):=fun l=>by
  induction l with
  | nil=>rfl
  | cons p r ih=>simp only [Ka,List.zip_cons_cons,ih]
 rw [← h2,← xo,← F7,← key]
 obtain ⟨l⟩:=ps
 simp
theorem run_build{P:Program}{t:TypeId}{fs:List (Nat×Nat)}{z:List Value}{ps:List (Nat×Value)}(hz:iF P t=some z)(hf:BD P t=some fs)(aq:okB fs z.length ps=true)(u:World) :
 (Instr.build t ps.toArray).run P u=.ok (.agg ⟨fU fs z ps⟩) u:=by
 obtain ⟨zv,ql,kV⟩:=XH (w:=u) hz
 unfold BD at hf
 cases hu:P.underlying t with
 | none=>simp [hu] at hf
 | some d=>
  cases d <;> simp only [hu] at hf <;> try (cases hf)
  case array m e=>
   cases hi:P.info? e with
   | none=>simp [hi] at hf
   | some i=>
    simp only [hi,Option.map_some,Option.some.injEq] at hf
    have hsz:(sizeOf e).run P u=.ok i.size u:=by simp [sizeOf,typeInfo,hi]
    have kW:=gn fs (fun j=>some (j*i.size,i.size)) (fun j x hx=>by
     subst hf
     rw [Lt] at hx
     cases hr:(List.range m)[j]? with
     | none=>rw [hr] at hx; simp at hx
     | some q=>
      have hq:j=q:=by
       obtain ⟨h1,h2⟩:=Le.1 hr
       simpa using h2
      rw [hr] at hx
      subst hq
      simpa using hx) ps z aq
    simp only [Instr.build,Sem.run_bind,ql,Result.andThen_ok,kV,JC hu,hsz,kW,Sem.run_pure]
  case struct fl=>
   have hm:=sj P u fl.toList fs hf
   have kW:=gn fs (fun j=>(⟨fs⟩:Array (Nat×Nat))[j]?) (fun j x hx=>by simpa using hx) ps z aq
   simp only [Instr.build,Sem.run_bind,ql,Result.andThen_ok,kV,JC hu]
   rw [Array.mapM_eq_mapM_toList]
   simp only [Sem.run_map,hm,Result.andThen_ok]
   have Mj:Instr.fill (fun x=>fs.toArray[x]?) { toList:=z } ps=some { toList:=fU fs z ps }:=kW
   rw [Mj]
   rfl
theorem Qe{t:TypeId}{ps:Array (Nat×Operand)}{xs:List Operand}{is:List Nat}{fs:List (Nat×Nat)}{vs cs z:List Value}(hz:iF P t=some z)(eD:BD P t=some fs)(xo:ps.toList.map (·.2)=xs)(F7:ps.toList.map (·.1)=is)(hx:fL S xs=some vs)
 (aq:okB fs z.length (is.zip vs)=true) (ef:eP (fU fs z (is.zip vs)) 0 (fU fs z (is.zip vs)).length=some cs):∀ a,Fr a n D S→Yl P md w a ⟨dst,.build t ps,ty,pos,af,g⟩ (.agg ⟨cs⟩):=fun a hf u _=>by
 have h1:=iH hf xo F7 hx
 have h2:=gp (fU fs z (is.zip vs)) []
 simp only [L4,LA] at h2
 rw [h2] at ef
 cases ef
 simp only [execOp,h1,Sem.run_bind,run_build hz eD aq u,Result.andThen_ok,Sem.run_pure]
theorem BE{f:Fn}{fi ca:Array Operand}{l1 l2:List Value}(h1:fL S fi.toList=some l1)(h2:fL S ca.toList=some l2) :
 ∀ a,Fr a n D S→Yl P md w a ⟨dst,.makeFunc f fi ca,ty,pos,af,g⟩ (.func f ⟨l1⟩ ⟨l2⟩):=fun a hf u _=>by
 have e1:fi.map a.eval=⟨l1⟩:=by obtain ⟨l⟩:=fi; simpa using hf.kN h1
 have e2:ca.map a.eval=⟨l2⟩:=by obtain ⟨l⟩:=ca; simpa using hf.kN h2
 simp [execOp,Instr.makeFunc,e1,e2]
theorem xp{t:TypeId}{x:Operand}{v:Value}{d:TypeDesc}(hx:ev S x=some v)(hu:P.underlying t=some d)(hd:(match d with | .interface _=>false | _=>true)=true) :
 ∀ a,Fr a n D S→Yl P md w a ⟨dst,.makeInterface t x,ty,pos,af,g⟩ (.iface t v):=fun a hf u _=>by
 cases d <;> simp at hd <;> simp [execOp,hf.eval hx,Instr.makeInterface,JC hu]
theorem QU{op:BinOp}{t yt:TypeId}{x y:Operand}{vx vy v:Value}(hx:ev S x=some vx)(hy:ev S y=some vy)
 (hb:∀ u,(do eqGuard op t x y vx vy; binOp op t vx vy:Sem Value).run P u=.ok v u):∀ a,Fr a n D S→Yl P md w a ⟨dst,.binOp op t x y yt,ty,pos,af,g⟩ v:=fun a hf u _=>by
 have:=hb u
 simp only [execOp,hf.eval hx,hf.eval hy,Sem.run_bind] at this ⊢
 rw [this]
 rfl
theorem JR{op:BinOp}{t:TypeId}{x y:Operand}{k k':IntKind}{i j:Int}{u:World}:(eqGuard op t x y (.int k i) (.int k' j)).run P u=.ok () u:=by
 unfold eqGuard
 cases op <;> simp
theorem J5{t yt:TypeId}{x y:Operand}{k:IntKind}{i j z:Int}(hx:ev S x=some (.int k i))(hy:ev S y=some (.int k j))(hz:k.wrap (i+j)=z) :
 ∀ a,Fr a n D S→Yl P md w a ⟨dst,.binOp .add t x y yt,ty,pos,af,g⟩ (.int k z):=QU hx hy fun u=>by
 subst hz; simp [JR,binOp,Op.intArith]
theorem QR{t yt:TypeId}{x y:Operand}{k:IntKind}{i j z:Int}(hx:ev S x=some (.int k i))(hy:ev S y=some (.int k j))(hz:k.wrap (i-j)=z) :
 ∀ a,Fr a n D S→Yl P md w a ⟨dst,.binOp .sub t x y yt,ty,pos,af,g⟩ (.int k z):=QU hx hy fun u=>by
 subst hz; simp [JR,binOp,Op.intArith]
theorem Vy{t yt:TypeId}{x y:Operand}{k:IntKind}{i j z:Int}(hx:ev S x=some (.int k i))(hy:ev S y=some (.int k j))(hz:k.wrap (i*j)=z) :
 ∀ a,Fr a n D S→Yl P md w a ⟨dst,.binOp .mul t x y yt,ty,pos,af,g⟩ (.int k z):=QU hx hy fun u=>by
 subst hz; simp [JR,binOp,Op.intArith]
theorem Yy{t yt:TypeId}{x y:Operand}{k:IntKind}{i j z:Int}(hx:ev S x=some (.int k i))(hy:ev S y=some (.int k j))(hj:j≠0)(hz:k.wrap (i.tdiv j)=z) :
 ∀ a,Fr a n D S→Yl P md w a ⟨dst,.binOp .quo t x y yt,ty,pos,af,g⟩ (.int k z):=QU hx hy fun u=>by
 subst hz; simp [JR,binOp,Op.intDiv,hj]
theorem sm{t yt:TypeId}{x y:Operand}{k:IntKind}{i j z:Int}(hx:ev S x=some (.int k i))(hy:ev S y=some (.int k j))(hj:j≠0)(hz:i.tmod j=z) :
 ∀ a,Fr a n D S→Yl P md w a ⟨dst,.binOp .rem t x y yt,ty,pos,af,g⟩ (.int k z):=QU hx hy fun u=>by
 subst hz; simp [JR,binOp,Op.intDiv,hj]
theorem VA{t yt:TypeId}{x y:Operand}{k:IntKind}{i j z:Int}(hx:ev S x=some (.int k i))(hy:ev S y=some (.int k j))(hz:k.wrap (BitVec.ofInt k.bits i &&& BitVec.ofInt k.bits j).toNat=z) :
 ∀ a,Fr a n D S→Yl P md w a ⟨dst,.binOp .and t x y yt,ty,pos,af,g⟩ (.int k z):=QU hx hy fun u=>by
 subst hz; simp [JR,binOp,Op.intBits]
theorem kX{t yt:TypeId}{x y:Operand}{k:IntKind}{i j z:Int}(hx:ev S x=some (.int k i))(hy:ev S y=some (.int k j))(hz:k.wrap (BitVec.ofInt k.bits i ||| BitVec.ofInt k.bits j).toNat=z) :
 ∀ a,Fr a n D S→Yl P md w a ⟨dst,.binOp .or t x y yt,ty,pos,af,g⟩ (.int k z):=QU hx hy fun u=>by
 subst hz; simp [JR,binOp,Op.intBits]
theorem Vw{t yt:TypeId}{x y:Operand}{k:IntKind}{i j z:Int}(hx:ev S x=some (.int k i))(hy:ev S y=some (.int k j))(hz:k.wrap (BitVec.ofInt k.bits i ^^^ BitVec.ofInt k.bits j).toNat=z) :
 ∀ a,Fr a n D S→Yl P md w a ⟨dst,.binOp .xor t x y yt,ty,pos,af,g⟩ (.int k z):=QU hx hy fun u=>by
 subst hz; simp [JR,binOp,Op.intBits]
theorem so{t yt:TypeId}{x y:Operand}{k k':IntKind}{i j z:Int}(hx:ev S x=some (.int k i))(hy:ev S y=some (.int k' j))(hj:0≤j)(hz:k.wrap (i*2 ^ (min j.toNat k.bits))=z) :
 ∀ a,Fr a n D S→Yl P md w a ⟨dst,.binOp .shl t x y yt,ty,pos,af,g⟩ (.int k z):=QU hx hy fun u=>by
 subst hz; simp [JR,binOp,Op.shift,Int.not_lt.2 hj]
theorem V1{t yt:TypeId}{x y:Operand}{k k':IntKind}{i j z:Int}(hx:ev S x=some (.int k i))(hy:ev S y=some (.int k' j))(hj:0≤j)(hz:i.fdiv (2 ^ (min j.toNat k.bits))=z) :
 ∀ a,Fr a n D S→Yl P md w a ⟨dst,.binOp .shr t x y yt,ty,pos,af,g⟩ (.int k z):=QU hx hy fun u=>by
 subst hz; simp [JR,binOp,Op.shift,Int.not_lt.2 hj]
theorem V3{t yt:TypeId}{x y:Operand}{k:IntKind}{i j:Int}(hx:ev S x=some (.int k i))(hy:ev S y=some (.int k j)) :
 ∀ a,Fr a n D S→Yl P md w a ⟨dst,.binOp .eql t x y yt,ty,pos,af,g⟩ (.bool (decide (i=j))):=QU hx hy fun u=>by
 simp [JR,binOp,Op.intCmp]; by_cases h:i=j <;> simp [h]
theorem XD{t yt:TypeId}{x y:Operand}{k:IntKind}{i j:Int}(hx:ev S x=some (.int k i))(hy:ev S y=some (.int k j)) :
 ∀ a,Fr a n D S→Yl P md w a ⟨dst,.binOp .neq t x y yt,ty,pos,af,g⟩ (.bool (decide (i≠j))):=QU hx hy fun u=>by
 simp [JR,binOp,Op.intCmp]; by_cases h:i=j <;> simp [h]
theorem VO{t yt:TypeId}{x y:Operand}{k:IntKind}{i j:Int}(hx:ev S x=some (.int k i))(hy:ev S y=some (.int k j)) :
 ∀ a,Fr a n D S→Yl P md w a ⟨dst,.binOp .lss t x y yt,ty,pos,af,g⟩ (.bool (decide (i<j))):=QU hx hy fun u=>by
 simp [JR,binOp,Op.intCmp]
theorem Ry{t yt:TypeId}{x y:Operand}{k:IntKind}{i j:Int}(hx:ev S x=some (.int k i))(hy:ev S y=some (.int k j)) :
 ∀ a,Fr a n D S→Yl P md w a ⟨dst,.binOp .leq t x y yt,ty,pos,af,g⟩ (.bool (decide (i≤j))):=QU hx hy fun u=>by
 simp [JR,binOp,Op.intCmp]
theorem XE{t yt:TypeId}{x y:Operand}{k:IntKind}{i j:Int}(hx:ev S x=some (.int k i))(hy:ev S y=some (.int k j)) :
 ∀ a,Fr a n D S→Yl P md w a ⟨dst,.binOp .gtr t x y yt,ty,pos,af,g⟩ (.bool (decide (j<i))):=QU hx hy fun u=>by
 simp [JR,binOp,Op.intCmp]
theorem Rz{t yt:TypeId}{x y:Operand}{k:IntKind}{i j:Int}(hx:ev S x=some (.int k i))(hy:ev S y=some (.int k j)) :
 ∀ a,Fr a n D S→Yl P md w a ⟨dst,.binOp .geq t x y yt,ty,pos,af,g⟩ (.bool (decide (j≤i))):=QU hx hy fun u=>by
 simp [JR,binOp,Op.intCmp]
theorem kY{t:TypeId}{x:Operand}{b:Bool}(hx:ev S x=some (.bool b)):∀ a,Fr a n D S→Yl P md w a ⟨dst,.unOp .not t x,ty,pos,af,g⟩ (.bool (!b)):=fun a hf u _=>by
 simp [execOp,hf.eval hx,Op.unary]
theorem RA{t:TypeId}{x:Operand}{k:IntKind}{i z:Int}(hx:ev S x=some (.int k i))(hz:k.wrap (0-i)=z):∀ a,Fr a n D S→Yl P md w a ⟨dst,.unOp .neg t x,ty,pos,af,g⟩ (.int k z):=fun a hf u _=>by
 subst hz; simp [execOp,hf.eval hx,Op.unary,Op.intArith]
theorem IP{t:TypeId}{x:Operand}{k:IntKind}{i z:Int}(hx:ev S x=some (.int k i))(hk:k.signed=false)(hz:k.wrap (BitVec.ofInt k.bits k.max ^^^ BitVec.ofInt k.bits i).toNat=z) :
 ∀ a,Fr a n D S→Yl P md w a ⟨dst,.unOp .xor t x,ty,pos,af,g⟩ (.int k z):=fun a hf u _=>by
 subst hz; simp [execOp,hf.eval hx,Op.unary,hk,Op.intBits]
theorem JX{s t:TypeId}{x:Operand}{k k':IntKind}{i z:Int}(hx:ev S x=some (.int k i))(hs:(P.underlying s).isSome=true)(ht:kS P t=some k')(hz:k'.wrap i=z) :
 ∀ a,Fr a n D S→Yl P md w a ⟨dst,.convert s t x,ty,pos,af,g⟩ (.int k' z):=fun a hf u _=>by
 subst hz
 obtain ⟨d,hd⟩:=Option.isSome_iff_exists.1 hs
 have Mk:P.underlying t=some (.int k'):=by
  unfold kS at ht
  cases hu:P.underlying t with
  | none=>simp [hu] at ht
  | some d=>cases d <;> simp [hu] at ht; subst ht; rfl
 simp [execOp,hf.eval hx,convert,JC hd,JC Mk,Conv.intToInt]
theorem gq{t:TypeId}{x:Operand}{p:Option Addr}{l c:Nat}{ts:Array TypeId}{e:TypeId×Nat×Nat}(hx:ev S x=some (.slice p l c))(dU:ts[0]?=some t)(ht:QH P t=some e) :
 ∀ a,Fr a n D S→Yl P md w a ⟨dst,.call ⟨.builtin .len,#[x],ts⟩,ty,pos,af,g⟩ (.int .i64 l):=fun a hf u _=>by
 have Mk:∃ e,P.underlying t=some (.slice e):=by
  unfold QH at ht
  cases hu:P.underlying t with
  | none=>simp [hu] at ht
  | some d=>cases d <;> simp [hu] at ht ⊢
 obtain ⟨e',he⟩:=Mk
 simp [execOp,resolve,hf.eval hx,invoke,builtin,Builtin.len_,dU,JC he,goInt]
theorem RB{x y:Operand}{k:IntKind}{i j:Int}{ts:Array TypeId}(hx:ev S x=some (.int k i))(hy:ev S y=some (.int k j)) :
 ∀ a,Fr a n D S→Yl P md w a ⟨dst,.call ⟨.builtin .min,#[x,y],ts⟩,ty,pos,af,g⟩ (.int k (min i j)):=fun a hf u _=>by
 have:(if j<i then j else i)=min i j:=by omega
 simp [execOp,resolve,hf.eval hx,hf.eval hy,invoke,builtin,Builtin.min_,Builtin.min2,this]
theorem IQ{x y:Operand}{k:IntKind}{i j:Int}{ts:Array TypeId}(hx:ev S x=some (.int k i))(hy:ev S y=some (.int k j)) :
 ∀ a,Fr a n D S→Yl P md w a ⟨dst,.call ⟨.builtin .max,#[x,y],ts⟩,ty,pos,af,g⟩ (.int k (max i j)):=fun a hf u _=>by
 have:(if i<j then j else i)=max i j:=by omega
 simp [execOp,resolve,hf.eval hx,hf.eval hy,invoke,builtin,Builtin.max_,Builtin.max2,this]
end
end Go.Cx
namespace Go.Cx
open Go
def vC(o:Oper):Bool:=match o.op with | .defer _=>false | .select ..=>false | _=>true
def Rt(R:Value→World→Prop)(e:Ending)(w:World):Prop:=∃ v,e=.returned v∧R v w
def C(P:Program)(f:FuncId)(vs:List Value)(w:World)(R:Value→World→Prop):Prop:=Calls P f ⟨vs⟩ w (Rt R)
theorem C.mono{P:Program}{f:FuncId}{vs:List Value}{w:World}{R R':Value→World→Prop}(h:C P f vs w R)(hr:∀ v w,R v w→R' v w):C P f vs w R':=
 Calls.mono h fun _ _ ⟨v,he,h⟩=>⟨v,he,hr _ _ h⟩
def JH (P : Program) (f : FuncId) : Bool := match P.funcs[f]? with | some fn => fn.name != "runtime.NumGoroutine" && fn.body.isSome | none => false
theorem gr{P:Program}{f:FuncId}(h:JH P f=true)(args:Array Value)(w:World):(callFunc f args).run P w=.ok (.enter f args) w:=by
 unfold JH at h
 cases hf:P.funcs[f]? with
 | none=>simp [hf] at h
 | some fn=>
  simp [hf] at h
  cases hb:fn.body with
  | none=>simp [hb] at h
  | some c=>simp [callFunc,hf,h.1,hb]
theorem QT:∀ (us l:List Value) (o:Nat),o+us.length≤l.length→aU l o us=l.take o++us++l.drop (o+us.length)
 | [],l,o,_=>by simp [aU]
 | u::r,l,o,h=>by
  simp only [Li] at h
  rw [aU,QT r _ _ (by simp [Yg]; omega),Yg]
  exact list_seg_step l o u r Ta
section
variable {P:Program}{r:Option Nat}{k:Ks}{ops:Array Oper}{md:Md}{n:Nat}{D:List Deferred}{S:List (Nat×Value)}{w:World}{i:Nat}{t:Tr}
variable {ty:TypeId}{pos:String}{af:Array Edge}{g:Option (Nat×Bool)}{dst:Option Tmp}{d:Nat}{w0:World}{X:Bs}{L:List (Nat×ag)}
theorem Vv{o:Oper}{v:Value}{w':World}(ho:eL ops S i=some (o,d))(hd:Nat.blt d n=true)(hp:vC o=true)(aN:∀ a,Fr a n D S→(execOp a.eval o).run P w=.ok (.value v) w')
 (hh:aQ md w') (h:HR P r k ops md n D ((d,v)::S) t w'):HR P r k ops md n D S (.act i t) w:=fun a hf=>by
 obtain ⟨h1,h2,h3⟩:=V4 ho hf
 refine ⟨o,h1,fun _=>?_,fun hw=>by rw [h2] at hw; cases hw⟩
 unfold rV
 rw [JY hp,aN a hf]
 refine ⟨hh,?_⟩
 rw [h3]
 exact h _ (hf.put v hd)
theorem oK{o:Oper}{w':World}(ho:j7 ops S i=some o)(hp:vC o=true)(aN:∀ a,Fr a n D S→(execOp a.eval o).run P w=.ok .skip w')
 (hh:aQ md w') (h:HR P r k ops md n D S t w'):HR P r k ops md n D S (.act i t) w:=fun a hf=>by
 obtain ⟨h1,h2,h3⟩:=YH ho hf
 refine ⟨o,h1,fun _=>?_,fun hw=>by rw [h2] at hw; cases hw⟩
 unfold rV
 rw [JY hp,aN a hf]
 refine ⟨hh,?_⟩
 rw [h3]
 exact h _ hf
theorem bW{o:Oper}{v:Value}(ho:eL ops S i=some (o,d))(hd:Nat.blt d n=true)(hp:vC o=true)(hy:∀ a,Fr a n D S→Yl P none w a o v)(hh:aQ md w)
 (h:HR P r k ops md n D ((d,v)::S) t w):HR P r k ops md n D S (.act i t) w:=Vv ho hd hp (fun a hf=>hy a hf w rfl) hh h
def Ft(md:Md)(m:Nat):Prop:=match md with | none=>True | some (b,_)=>b.heap.size≤m
theorem aQ.geq{md:Md}{w:World}(h:aQ md w):Ft md w.heap.size:=by
 cases md with
 | none=>trivial
 | some x=>exact Ext.size h
theorem Qx(w:World)(o:Obj):Ext No w (w.alloc o):=⟨rfl,rfl,rfl,Tc,fun j hj _=>by
 show (w.heap.push _)[j]?=_
 rw [Array.getElem?_push,LH Ta]⟩
theorem xq{e:TypeId}{l:List Value}(ho:eL ops S i=some (⟨dst,.alloc e,ty,pos,af,g⟩,d))(hd:Nat.blt d n=true)(hz:iF P e=some l)(hm:Mem w0 w X L)(hh:aQ md w)
 (h:∀ m w',Ft md m→Mem w0 w' X ((m,.row e l)::L)→aQ md w'→HR P r k ops md n D ((d,.pointer (some ⟨m,0,none⟩))::S) t w'):HR P r k ops md n D S (.act i t) w:=by
 obtain ⟨v,hv,hc⟩:=XH (w:=w) hz
 refine Vv (v:=.pointer (some ⟨w.heap.size,0,none⟩)) (w':=w.alloc (ag.row e l).Jd) ho hd rfl (fun a hf=>?_) (hh.ext (Qx _ _)) (h _ _ hh.geq (hm.alloc _) (hh.ext (Qx _ _)))
 simp [execOp,Instr.alloc,hv,newVar,newRow,hc,ag.Jd]
theorem RC{e:TypeId}{x:Operand}{v:Value}{l:List Value}(ho:eL ops S i=some (⟨dst,.box e x,ty,pos,af,g⟩,d))(hd:Nat.blt d n=true)(hx:ev S x=some v)(hl:v.cells=⟨l⟩)(hm:Mem w0 w X L)(hh:aQ md w)
 (h:∀ m w',Ft md m→Mem w0 w' X ((m,.row e l)::L)→aQ md w'→HR P r k ops md n D ((d,.pointer (some ⟨m,0,none⟩))::S) t w'):HR P r k ops md n D S (.act i t) w:=by
 refine Vv (v:=.pointer (some ⟨w.heap.size,0,none⟩)) (w':=w.alloc (ag.row e l).Jd) ho hd rfl (fun a hf=>?_) (hh.ext (Qx _ _)) (h _ _ hh.geq (hm.alloc _) (hh.ext (Qx _ _)))
 simp [execOp,hf.eval hx,Instr.box,newVar,newRow,hl,ag.Jd]
def Qn(z:List Value):Nat→List Value
 | 0=>[]
 | n+1=>z++Qn z n
theorem Qg(z:List Value):∀ n,(Qn z n).length=n*z.length
 | 0=>by simp [Qn]
 | n+1=>by simp only [Qn,Lc,Qg z n,Nat.succ_mul]; omega
theorem su(z:List Value)(hz:0<z.length):∀ (n i:Nat),i<n*z.length→(Qn z n)[i]?=z[i%z.length]?
 | 0,i,h=>by simp at h
 | n+1,i,h=>by
  simp only [Qn]
  by_cases hi:i<z.length
  · rw [L3 hi,Nat.mod_eq_of_lt hi]
  · rw [L6 Ta,su z hz n (i-z.length) (by rw [Nat.succ_mul] at h; omega),← Nat.mod_eq_sub_mod Ta]
theorem kZ(z:List Value)(n:Nat):((Array.range (n*z.length)).map ((⟨z⟩:Array Value)[· % (⟨z⟩:Array Value).size]!))=⟨Qn z n⟩:=by
 apply Array.ext'
 apply Kb
 intro i
 simp only [Array.toList_map,Array.toList_range,Lt]
 by_cases hi:i<n*z.length
 · have hz:0<z.length:=by
    rcases Nat.eq_zero_or_pos z.length with h | h
    · rw [h] at hi; simp at hi
    · exact h
   rw [su z hz n i hi,List.getElem?_range hi]
   have aX:i%z.length<z.length:=Nat.mod_lt _ hz
   simp [aX]
 · rw [L8 (by simp; omega),L8 (by rw [Qg]; omega)]
   rfl
theorem Jb{T e es bs:Nat}{len:Nat}{ps:Array (Nat×Operand)}{xs:List Operand}{is:List Nat}{vs l z:List Value}(ho:eL ops S i=some (⟨dst,.buildSlice T len ps,ty,pos,af,g⟩,d))(hd:Nat.blt d n=true)
 (hT:QH P T=some (e,es,bs)) (hz:iF P e=some z) (cV:Nat.beq z.length es=true) (jac:Nat.ble (len*es) 16777216=true) (xo:ps.toList.map (·.2)=xs) (F7:ps.toList.map (·.1)=is) (hx:fL S xs=some vs)
 (aq:okB ((List.range len).map fun j=>(j*es,es)) (Qn z len).length (is.zip vs)=true)
 (hl:eP (fU ((List.range len).map fun j=>(j*es,es)) (Qn z len) (is.zip vs)) 0 (fU ((List.range len).map fun j=>(j*es,es)) (Qn z len) (is.zip vs)).length=some l) (hm:Mem w0 w X L) (hh:aQ md w)
 (h:∀ m w',Ft md m→Mem w0 w' X ((m,.row e l)::L)→aQ md w'→HR P r k ops md n D ((d,.slice (some ⟨m,0,none⟩) len len)::S) t w'):HR P r k ops md n D S (.act i t) w:=by
 have hlen:z.length=es:=by simpa using cV
 have h2:=gp (fU ((List.range len).map fun j=>(j*es,es)) (Qn z len) (is.zip vs)) []
 simp only [L4,LA] at h2
 rw [h2] at hl
 cases hl
 refine Vv (v:=.slice (some ⟨w.heap.size,0,none⟩) len len) (w':=w.alloc (ag.row e (fU ((List.range len).map fun j=>(j*es,es)) (Qn z len) (is.zip vs))).Jd) ho hd rfl (fun a hf=>?_) (hh.ext (Qx _ _)) (h _ _ hh.geq (hm.alloc _) (hh.ext (Qx _ _)))
 have h1:=iH hf xo F7 hx
 obtain ⟨zv,ql,kV⟩:=XH (w:=w) hz
 have jn:P.underlying T=some (.slice e)∧(sizeOf e).run P w=.ok es w:=by
  unfold QH at hT
  cases hu:P.underlying T with
  | none=>simp [hu] at hT
  | some dd=>
   cases dd <;> simp [hu] at hT
   rename_i e'
   cases hi:P.info? e' with
   | none=>simp [hi] at hT
   | some ii=>
    simp [hi] at hT
    obtain ⟨rfl,h3,_⟩:=hT
    exact ⟨rfl,by simp [sizeOf,typeInfo,hi,h3]⟩
 have kW:=gn ((List.range len).map fun j=>(j*es,es)) (fun j=>some (j*es,es)) (fun j x hx=>by
  rw [Lt] at hx
  cases hr:(List.range len)[j]? with
  | none=>rw [hr] at hx; simp at hx
  | some q=>
   have hq:j=q:=by
    obtain ⟨h1,h2⟩:=Le.1 hr
    simpa using h2
   rw [hr] at hx
   subst hq
   simpa using hx) (is.zip vs) (Qn z len) aq
 have hb:¬ (len*es>2 ^ 24):=by have:=Nat.le_of_ble_eq_true jac; omega
 have Ml:((Array.range (len*es)).map ((⟨z⟩:Array Value)[· % (⟨z⟩:Array Value).size]!))=⟨Qn z len⟩:=by
  rw [← kZ z len,hlen]
 have F8:∀ (cs:Array Value) (u:World),(newRow e cs).run P u=.ok ⟨u.heap.size,0,none⟩ (u.alloc (.cells cs e)):=fun cs u=>by simp [newRow]
 by_cases h0:len*es=0
 · have Fu:Qn z len=[]:=Ll.1 (by rw [Qg,hlen]; exact h0)
   rw [Fu] at kW
   simp only [execOp,h1,Sem.run_bind,Instr.buildSlice,JC jn.1,Result.andThen_ok,jn.2,h0,if_true,Sem.run_pure]
   have hr0:∀ f:Nat→Value,(Array.range 0).map f=(⟨[]⟩:Array Value):=fun f=>by simp
   have Mm:¬ (0>2 ^ 24):=by decide
   simp only [Mm,if_false,hr0,kW,Sem.run_bind,F8,Result.andThen_ok,Sem.run_pure,Fu]
   rfl
 · simp only [execOp,h1,Sem.run_bind,Instr.buildSlice,JC jn.1,Result.andThen_ok,jn.2,hb,if_false,h0,ql,kV,Sem.run_pure,Ml,kW,F8]
   rfl
theorem Qk{j m:Nat}{e:TypeId}{l l':List Value}(hm:Mem w0 w X L)(hk:aR L j=some (m,.row e l)):Mem w0 (w.setRow m ⟨l'⟩) X (Qr L j (.row e l')):=by
 refine hm.set hk _ rfl rfl rfl (by simp [World.setRow]) ?_ ?_
 · exact setRow_heap w m ⟨l⟩ ⟨l'⟩ e (0,0) (hm.get hk)
 · intro q hq
   simp only [World.setRow,Array.getElem?_modify]
   rw [LH Ta]
theorem Vg{m off:Nat}{T e:TypeId}{l vs:List Value}{v:Value}(hc:v.cells=⟨vs⟩)(hs:gj P T=some vs.length)(h1:vs.all (·.oneCell')=true)(aX:Nat.ble (off+vs.length) l.length=true)
 (h:w.heap[m]?=some (ag.row e l).Jd):(storeVar T ⟨m,off,none⟩ v).run P w=.ok () (w.setRow m ⟨aU l off vs⟩):=by
 have hle:off+vs.length≤l.length:=by simpa using aX
 have:=run_storeCells_at P m off e vs 0 ⟨l⟩ w h (by simpa using hle) (by simpa using h1)
 simp only [Nat.add_zero] at this
 rw [← QT vs l off hle] at this
 simp [storeVar,gk hs,hc,this]
theorem Vi{T e:TypeId}{x y:Operand}{m off:Nat}{l vs:List Value}{v:Value}(ho:j7 ops S i=some ⟨dst,.store T x y,ty,pos,af,g⟩)(hx:ev S x=some (.pointer (some ⟨m,off,none⟩)))(hy:ev S y=some v)
 (hc:v.cells=⟨vs⟩) (hs:gj P T=some vs.length) (h1:vs.all (·.oneCell')=true) (hm:Mem w0 w X L) (j:Nat) (hk:aR L j=some (m,.row e l)) (aX:Nat.ble (off+vs.length) l.length=true)
 (h:∀ w',Mem w0 w' X (Qr L j (.row e (aU l off vs)))→HR P r k ops none n D S t w'):HR P r k ops none n D S (.act i t) w:=by
 refine oK (w':=w.setRow m ⟨aU l off vs⟩) ho rfl (fun a hf=>?_) trivial (h _ (Qk hm hk))
 simp [execOp,hf.eval hx,hf.eval hy,Instr.storeAt,Instr.sureAddr,Vg hc hs h1 aX (hm.get hk)]
theorem QO{b:World}{Y:Bs}{T e:TypeId}{x y:Operand}{m off:Nat}{l vs:List Value}{v:Value}(ho:j7 ops S i=some ⟨dst,.store T x y,ty,pos,af,g⟩)(hx:ev S x=some (.pointer (some ⟨m,off,none⟩)))(hy:ev S y=some v)
 (hc:v.cells=⟨vs⟩) (hs:gj P T=some vs.length) (h1:vs.all (·.oneCell')=true) (hm:Mem w0 w X L) (j:Nat) (hk:aR L j=some (m,.row e l)) (aX:Nat.ble (off+vs.length) l.length=true) (hh:aQ (some (b,Y)) w) (hb:Ft (some (b,Y)) m∨Y m)
 (h:∀ w',Mem w0 w' X (Qr L j (.row e (aU l off vs)))→aQ (some (b,Y)) w'→HR P r k ops (some (b,Y)) n D S t w'):HR P r k ops (some (b,Y)) n D S (.act i t) w:=by
 have fM:aQ (some (b,Y)) (w.setRow m ⟨aU l off vs⟩):=by
  have qm:Ext Y b w:=hh
  show Ext Y b _
  refine ⟨qm.os,qm.tape,qm.output,by simpa [World.setRow] using qm.size,fun q hq hY=>?_⟩
  rw [← qm.same q hq hY]
  simp only [World.setRow,Array.getElem?_modify]
  rw [LH]
  intro e; subst e
  rcases hb with hb | hb
  · have hb':b.heap.size≤m:=hb
    omega
  · exact hY hb
 refine oK (w':=w.setRow m ⟨aU l off vs⟩) ho rfl (fun a hf=>?_) fM (h _ (Qk hm hk) fM)
 simp [execOp,hf.eval hx,hf.eval hy,Instr.storeAt,Instr.sureAddr,Vg hc hs h1 aX (hm.get hk)]
theorem sv{T e:TypeId}{x y:Operand}{m off:Nat}{l vs:List Value}{v:Value}(ho:j7 ops S i=some ⟨dst,.store T x y,ty,pos,af,g⟩)(hx:ev S x=some (.pointer (some ⟨m,off,none⟩)))(hy:ev S y=some v)
 (hc:v.cells=⟨vs⟩) (hs:gj P T=some vs.length) (h1:vs.all (·.oneCell')=true) (hk:w.heap[m]?=some (ag.row e l).Jd) (aX:Nat.ble (off+vs.length) l.length=true)
 (h:HR P r k ops none n D S t (w.setRow m ⟨aU l off vs⟩)):HR P r k ops none n D S (.act i t) w:=by
 refine oK (w':=w.setRow m ⟨aU l off vs⟩) ho rfl (fun a hf=>?_) trivial h
 simp [execOp,hf.eval hx,hf.eval hy,Instr.storeAt,Instr.sureAddr,Vg hc hs h1 aX hk]
theorem X5{o:Oper}{f:FuncId}{args:Array Value}{R:Value→World→Prop}{K:Act→World→Prop}{a:Act}(hp:vC o=true)(aN:(execOp a.eval o).run P w=.ok (.enter f args) w)(hc:Calls P f args w (Rt R))
 (h:∀ v w',R v w'→K (a.put o.dst v) w'):rV P r k o K a w:=by
 unfold rV
 rw [JY hp,aN]
 refine ⟨fun h=>by simp [Fw] at h,fZ.2 (hc.mono fun e w' he=>?_)⟩
 obtain ⟨v,rfl,hR⟩:=he
 exact h _ _ hR
theorem X1{c:Operand}{as:Array Operand}{ts:Array TypeId}{f:FuncId}{l1 l2:Array Value}{vs:List Value}{a:Act}(hf:Fr a n D S)(hc:ev S c=some (.func (.func f) l1 l2))(ha:fL S as.toList=some vs)(hg:JH P f=true) :
 (execOp a.eval ⟨dst,.call ⟨.value c,as,ts⟩,ty,pos,af,g⟩).run P w=.ok (.enter f (l1++⟨vs⟩++l2)) w:=by
 have h1:as.map a.eval=⟨vs⟩:=by obtain ⟨l⟩:=as; simpa using hf.kN ha
 simp [execOp,resolve,hf.eval hc,h1,Deferred.ofValue,invoke,gr hg]
theorem lh{as:Array Operand}{ts:Array TypeId}{f:FuncId}{vs:List Value}{R:Value→World→Prop}(ho:eL ops S i=some (⟨dst,.call ⟨.value (.func f),as,ts⟩,ty,pos,af,g⟩,d))(hd:Nat.blt d n=true)
 (ha:fL S as.toList=some vs) (hg:JH P f=true) (hc:C P f vs w R) (h:∀ v w',R v w'→aQ md w'∧HR P r k ops md n D ((d,v)::S) t w'):HR P r k ops md n D S (.act i t) w:=fun a hf=>by
 obtain ⟨h1,h2,h3⟩:=V4 ho hf
 refine ⟨_,h1,fun _=>?_,fun hw=>by rw [h2] at hw; cases hw⟩
 refine X5 (f:=f) (args:=⟨vs⟩) (R:=R) rfl ?_ hc fun v w' hR=>⟨(h v w' hR).1,?_⟩
 · rw [X1 hf (l1:=#[]) (l2:=#[]) rfl ha hg]; simp
 · rw [h3]
   exact (h v w' hR).2 _ (hf.put v hd)
theorem Qf{c:Operand}{as:Array Operand}{ts:Array TypeId}{f:FuncId}{l1 l2:Array Value}{vs:List Value}{R:Value→World→Prop}(ho:eL ops S i=some (⟨dst,.call ⟨.value c,as,ts⟩,ty,pos,af,g⟩,d))(hd:Nat.blt d n=true)
 (Mo:ev S c=some (.func (.func f) l1 l2)) (ha:fL S as.toList=some vs) (hg:JH P f=true) (hc:C P f (l1.toList++vs++l2.toList) w R) (h:∀ v w',R v w'→aQ md w'∧HR P r k ops md n D ((d,v)::S) t w'):HR P r k ops md n D S (.act i t) w:=fun a hf=>by
 obtain ⟨h1,h2,h3⟩:=V4 ho hf
 refine ⟨_,h1,fun _=>?_,fun hw=>by rw [h2] at hw; cases hw⟩
 refine X5 (f:=f) (args:=⟨l1.toList++vs++l2.toList⟩) (R:=R) rfl ?_ hc fun v w' hR=>⟨(h v w' hR).1,?_⟩
 · rw [X1 hf Mo ha hg]; congr 2; obtain ⟨l1⟩:=l1; obtain ⟨l2⟩:=l2; simp
 · rw [h3]
   exact (h v w' hR).2 _ (hf.put v hd)
theorem J1{as:Array Operand}{ts:Array TypeId}{f:FuncId}{vs:List Value}{b c:Bool}{gd:Nat}{v:Value}(ho:BA ops i=some (⟨dst,.call ⟨.value (.func f),as,ts⟩,ty,pos,af,g⟩,d,gd,b))(hl:look S gd=some (.bool c))(hd:Nat.blt d n=true)
 (ha:c=b→fL S as.toList=some vs) (hg:JH P f=true) (hc:c=b→C P f vs w (fun u w'=>u=v∧Ext No w w')) (hh:aQ md w) (h:∀ w',Ext No w w'→aQ md w'→HR P r k ops md n D ((d,gv c b v)::S) t w'):HR P r k ops md n D S (.act i t) w:=fun a hf=>by
 obtain ⟨h1,h3,gi,og,RD,oG,rW⟩:=YI ho
 have hw:=iE (ops:=ops) hf RD oG rW hl
 refine ⟨_,h1,fun fM=>?_,fun fM=>?_⟩
 · rw [hw] at fM
   have Be:c=b:=by simpa using fM
   refine X5 (f:=f) (args:=⟨vs⟩) rfl ?_ (hc Be) fun u w' ⟨hu,hx⟩=>⟨hh.ext hx,?_⟩
   · rw [X1 hf (l1:=#[]) (l2:=#[]) rfl (ha Be) hg]; simp
   · subst hu
     rw [h3]
     have:=h w' hx (hh.ext hx) _ (hf.put _ hd)
     simpa [gv,fM] using this
 · rw [hw] at fM
   refine ⟨hh,?_⟩
   rw [h3]
   have:=h w (Ext.refl _ _) hh _ (hf.put (gv c b v) hd)
   simpa [gv,fM] using this
theorem lj{as:Array Operand}{ts:Array TypeId}{f:FuncId}{vs:List Value}{b b' c e:Bool}{gd:Nat}{v:Value}(ho:BA ops i=some (⟨dst,.call ⟨.value (.func f),as,ts⟩,ty,pos,af,g⟩,d,gd,b'))(hl:look S gd=some (gv c b (.bool e)))(hd:Nat.blt d n=true)
 (ha:(c==b&&e==b')=true→fL S as.toList=some vs) (hg:JH P f=true) (hc:(c==b&&e==b')=true→C P f vs w (fun u w'=>u=v∧Ext No w w')) (hh:aQ md w) (h:∀ w',Ext No w w'→aQ md w'→HR P r k ops md n D ((d,gv (c==b&&e==b') true v)::S) t w'):HR P r k ops md n D S (.act i t) w:=fun a hf=>by
 obtain ⟨h1,h3,gi,og,RD,oG,rW⟩:=YI ho
 have hw:=oH (ops:=ops) hf RD oG rW hl
 refine ⟨_,h1,fun fM=>?_,fun fM=>?_⟩
 · rw [hw] at fM
   refine X5 (f:=f) (args:=⟨vs⟩) rfl ?_ (hc fM) fun u w' ⟨hu,hx⟩=>⟨hh.ext hx,?_⟩
   · rw [X1 hf (l1:=#[]) (l2:=#[]) rfl (ha fM) hg]; simp
   · subst hu
     rw [h3]
     have:=h w' hx (hh.ext hx) _ (hf.put _ hd)
     simp only [gv,fM] at this; exact this
 · rw [hw] at fM
   refine ⟨hh,?_⟩
   rw [h3]
   have:=h w (Ext.refl _ _) hh _ (hf.put (gv (c==b&&e==b') true v) hd)
   simp only [gv,fM] at this; exact this
theorem jad{o:Oper}{gd:Nat}{b c:Bool}(ho:BA ops i=some (o,d,gd,b))(hl:look S gd=some (.bool c))(hc:c≠b)(hd:Nat.blt d n=true)(hh:aQ md w)
 (h:HR P r k ops md n D ((d,undef)::S) t w):HR P r k ops md n D S (.act i t) w:=fun a hf=>by
 obtain ⟨h1,h3,gi,og,RD,oG,rW⟩:=YI ho
 have hw:=iE (ops:=ops) hf RD oG rW hl
 have e:(c==b)=false:=by simpa using hc
 refine ⟨_,h1,fun fM=>(by rw [hw,e] at fM; cases fM),fun _=>⟨hh,?_⟩⟩
 rw [h3]
 exact h _ (hf.put _ hd)
end
section
variable {P:Program}{r:Option Nat}{c:Code}{k:Ks}{n:Nat}{D:List Deferred}{S:List (Nat×Value)}{w:World}
theorem Qb(hc:kI c=true)(h:HW P r (y7 c) (k.sq P r (y8 c)) n D S w):HW P r c k n D S w:=fun a hf=>Rl hc (h a hf)
theorem j8(hc:qe c=true)(h:GN k n D S w):HW P r c k n D S w:=fun a hf=>K8 hc (h a hf)
theorem iI(hc:xn c=true)(h:GR k n D S w):HW P r c k n D S w:=fun a hf=>Rm hc (h a hf)
theorem F9{i:Nat}(hc:FY c=some i)(h:GX k i n D S w):HW P r c k n D S w:=fun a hf=>K9 hc (h a hf)
theorem qn{x:Operand}{b:Bool}(hc:r8 c=some x)(hb:ev S x=some (.bool b))(ht:b=true→HW P r (Bx c) k n D S w)(hf:b=false→HW P r (By c) k n D S w):HW P r c k n D S w:=
 fun a dV=>Ma hc (dV.eval hb) (fun h=>ht h a dV) (fun h=>hf h a dV)
theorem BF{x:Operand}{b:Bool}(hc:r8 c=some x)(hb:ev S x=some (.bool b))(BG:b=true)(ht:HW P r (Bx c) k n D S w):HW P r c k n D S w:=
 qn hc hb (fun _=>ht) (fun h=>by rw [BG] at h; cases h)
theorem Ye{x:Operand}{b:Bool}(hc:r8 c=some x)(hb:ev S x=some (.bool b))(PE:b=false)(hf:HW P r (By c) k n D S w):HW P r c k n D S w:=
 qn hc hb (fun h=>by rw [PE] at h; cases h) (fun _=>hf)
theorem XC{i:Nat}(hc:FW c=some i)(h:HW P r (K4 c) (k.bl i) n D S w):HW P r c k n D S w:=fun a hf=>FZ hc (h a hf)
theorem JT(t:Tr)(hc:(match c with | .region _ o d=>!d&&QI o&&Qh o.size 0 t | _=>false)=true)(h:HR P r k (qh c) none n D S t w):HW P r c k n D S w:=fun a hf=>Mc t hc (h a hf)
theorem JS [cH k]{w0:World}{X:Bs}{L:List (Nat×ag)}(t:Tr)(Y:Bs)(hm:P.follows .mixedOrders=true)
 (hc:(match c with | .region _ o d=>d&&QI o&&QY o o.size (Array.replicate o.size false) t | _=>false)=true) (hM:Mem w0 w X L)
 (h:∀ w',w'.heap=w.heap→Mem w0 w' X L→aQ (some (w',Y)) w'→HR P r k (qh c) (some (w',Y)) n D S t w'):HW P r c k n D S w:=fun a hf=>
 Mh t Y hm hc fun w' hx he=>
  have fN:Ext No w w':=⟨hx.os,hx.tape,hx.output,hx.size,fun j _ _=>by rw [he]⟩
  h w' he (hM.ext fN) (Ext.refl _ _) a hf
def Sub:List (Nat×Value)→List (Nat×Value)→Prop
 | [],_=>True
 | (i,v)::r,S=>look S i=some v∧Sub r S
theorem Sub.look:∀ {T S:List (Nat×Value)},Sub T S→∀ i v,look T i=some v→look S i=some v
 | [],_,_,_,_,h=>by simp [Cx.look] at h
 | (j,u)::r,S,hs,i,v,h=>by
  simp only [Cx.look] at h
  by_cases e:Nat.beq j i=true
  · simp only [e,cond_true,Option.some.injEq] at h
    have:j=i:=by simpa using e
    subst this; subst h
    exact hs.1
  · have e':Nat.beq j i=false:=Bool.eq_false_iff.2 e
    simp only [e',cond_false] at h
    exact Sub.look hs.2 i v h
theorem least(Q:Nat→Prop)(h:∃ m,Q m):∃ m,Q m∧∀ j,Q j→m≤j:=by
 obtain ⟨m,hm⟩:=h
 induction m using Nat.strongRecOn with
 | _ m ih=>
  by_cases hx:∃ j,j<m∧Q j
  · obtain ⟨j,hj,hq⟩:=hx
    exact ih j hj hq
  · exact ⟨m,hm,fun j hj=>Nat.le_of_not_lt fun aX=>hx ⟨j,aX,hj⟩⟩
theorem Ga{ι:Type}{b:Code}(hc:FX c=some b)(Sx:ι→List (Nat×Value))(M:ι→World→Prop)(μ:ι→Nat)(x0:ι)(h0:M x0 w)(hS:Sub (Sx x0) S)
 (round:∀ x w,M x w→HW P r (K5 c) (k.lp Sx M μ x n D) n D (Sx x) w):HW P r c k n D S w:=fun a hf=>by
 let Q:Act→World→Nat→Prop:=fun a w m=>∃ x,μ x=m∧M x w∧Fr a n D (Sx x)
 let ms:Act→World→Nat:=fun a w=>open Classical in if h:∃ m,Q a w m then Classical.choose (least _ h) else 0
 refine Mb hc (fun a w=>∃ x,M x w∧Fr a n D (Sx x)) ms ⟨x0,h0,hf.sub hS.look⟩ ?_
 rintro a w ⟨x,hM,hF⟩
 have hex:∃ m,Q a w m:=⟨μ x,x,rfl,hM,hF⟩
 have hms:ms a w=Classical.choose (least _ hex):=by simp only [ms]; rw [dif_pos hex]
 obtain ⟨⟨y,hy,hMy,hFy⟩,_⟩:=Classical.choose_spec (least _ hex)
 refine Bz (round y w hMy a hFy) ?_ (fun _ _ h=>h) (fun _ _ _ h=>h)
 rintro a' w' ⟨z,aX,hMz,hFz⟩
 refine ⟨⟨z,hMz,hFz⟩,?_⟩
 have Mp:∃ m,Q a' w' m:=⟨μ z,z,rfl,hMz,hFz⟩
 have jae:ms a' w'=Classical.choose (least _ Mp):=by simp only [ms]; rw [dif_pos Mp]
 have hle:=(Classical.choose_spec (least _ Mp)).2 (μ z) ⟨z,rfl,hMz,hFz⟩
 rw [jae,hms]
 omega
theorem next{ι:Type}{Sx:ι→List (Nat×Value)}{M:ι→World→Prop}{μ:ι→Nat}{x:ι}(y:ι)(hμ:μ y<μ x)(hM:M y w)(hS:Sub (Sx y) S):GN (k.lp Sx M μ x n D) n D S w:=
 fun _ hf=>⟨y,hμ,hM,hf.sub hS.look⟩
inductive Pick(S:List (Nat×Value)):List Nat→List (Nat×Value)→Prop where
 | nil:Pick S [] []
 | cons {i:Nat} {v:Value} {ks:List Nat} {T:List (Nat×Value)} (h:look S i=some v) (hr:Pick S ks T):Pick S (i::ks) ((i,v)::T)
theorem Pick.sub{ks:List Nat}{T:List (Nat×Value)}(h:Pick S ks T):Sub T S:=by
 induction h with
 | nil=>trivial
 | cons h _ ih=>exact ⟨h,ih⟩
theorem Sub.app:∀ {A T S:List (Nat×Value)},Sub A S→Sub T S→Sub (A++T) S
 | [],_,_,_,h=>h
 | (_,_)::_,_,_,h,g=>⟨h.1,h.2.app g⟩
theorem Jg{ι:Type}{b:Code}(hc:FX c=some b){ks:List Nat}{T:List (Nat×Value)}(hp:Pick S ks T)(Vx:ι→List (Nat×Value))(M:ι→World→Prop)(μ:ι→Nat)(x0:ι)(h0:M x0 w)(hS:Sub (Vx x0) S)
 (round:∀ x w,M x w→HW P r (K5 c) (k.lp (fun x=>Vx x++T) M μ x n D) n D (Vx x++T) w):HW P r c k n D S w:=
 Ga hc (fun x=>Vx x++T) M μ x0 h0 (hS.app hp.sub) round
def Ks.vi{ι:Type}(k:Ks)(Sx:ι→List (Nat×Value))(M:ι→World→Prop)(n:Nat)(D:List Deferred):Ks:={ k with norm:=fun a w=>∃ y,M y w∧Fr a n D (Sx y) }
instance {ι:Type}{k:Ks}[h:cH k]{Sx:ι→List (Nat×Value)}{M:ι→World→Prop}{n:Nat}{D:List Deferred}:cH (k.vi Sx M n D):=⟨h.put⟩
theorem Xc{ι:Type}(hc:kI c=true){ks:List Nat}{T:List (Nat×Value)}(hp:Pick S ks T)(Vx:ι→List (Nat×Value))(M:ι→World→Prop)
 (h1:HW P r (y7 c) (k.vi (fun x=>Vx x++T) M n D) n D S w) (h2:∀ x w,M x w→HW P r (y8 c) k n D (Vx x++T) w):HW P r c k n D S w:=
 Qb hc fun a hf=>Bz (h1 a hf) (fun a w ⟨y,hM,hF⟩=>h2 y w hM a hF) (fun _ _ h=>h) (fun _ _ _ h=>h)
theorem Qt{ι:Type}{Sx:ι→List (Nat×Value)}{M:ι→World→Prop}(y:ι)(hM:M y w)(hS:Sub (Sx y) S):GN (k.vi Sx M n D) n D S w:=fun _ hf=>⟨y,hM,hf.sub hS.look⟩
def Fin(P:Program)(fn:Func)(R:Value→World→Prop)(a:Act)(w:World):Prop:=a.defers=[]∧∃ v,(results fn a.tmps).run P w=.ok v w∧R v w
def Kf(P:Program)(fn:Func)(R:Value→World→Prop):Ks:={ norm:=Fin P fn R,ret:=Fin P fn R,ex:=fun _ _ _=>False }
theorem Vk{f:FuncId}{fn:Func}{vs:List Value}{R:Value→World→Prop}(hf:P.funcs[f]?=some fn)(hb:fn.body.isSome=true)(hn:fn.ntmps=n)(hl:Nat.ble vs.length n=true)
 (h:∀ (k:Ks) [cH k],(∀ a w,Fin P fn R a w→k.ret a w)→(∀ a w,Fin P fn R a w→k.norm a w)→HW P none (XS fn) k n [] (eJ 0 vs) w):C P f vs w R:=by
 obtain ⟨c,hc⟩:=Option.isSome_iff_exists.1 hb
 have lk:XS fn=c:=by simp [XS,hc]
 refine calls_of_wp hf hc ?_
 have dV:=Fr.init vs n (by simpa using hl)
 haveI:cH (Kf P fn R):=⟨fun _ _ _ _ _ h=>h⟩
 have hW:=h (Kf P fn R) (fun _ _ h=>h) (fun _ _ h=>h) _ dV
 rw [lk] at hW
 have zc:c.wp P (Kf P fn R).q { tmps:=vs.toArray++Array.replicate (n-vs.toArray.size) undef,defers:=[] } w:=wpIn_wide.1 hW
 subst hn
 refine wp_mono zc fun e a w' hq=>?_
 cases e with
 | normal=>obtain ⟨hd,v,hr,hR⟩:=hq; exact ⟨hd,v,hr,v,rfl,hR⟩
 | ret=>obtain ⟨hd,v,hr,hR⟩:=hq; exact ⟨hd,v,hr,v,rfl,hR⟩
 | exit i=>exact hq.elim
 | goto l=>exact hq.elim
 | panic c=>exact hq.elim
 | outgrown=>exact hq.elim
def Re(R:Value→World→Prop)(E:List PanicEntry→World→Prop)(e:Ending)(w:World):Prop:=match e with
 | .returned v=>R v w
 | .panicked c=>E c w
 | .outgrown=>False
def CE(P:Program)(f:FuncId)(vs:List Value)(w:World)(R:Value→World→Prop)(E:List PanicEntry→World→Prop):Prop:=Calls P f ⟨vs⟩ w (Re R E)
theorem CE.of{f:FuncId}{vs:List Value}{R:Value→World→Prop}{E:List PanicEntry→World→Prop}(h:C P f vs w R):CE P f vs w R E:=
 Calls.mono h fun _ _ ⟨v,he,h⟩=>by subst he; exact h
theorem CE.mono{f:FuncId}{vs:List Value}{R R':Value→World→Prop}{E E':List PanicEntry→World→Prop}(h:CE P f vs w R E)(hr:∀ v w,R v w→R' v w)(he:∀ c w,E c w→E' c w):CE P f vs w R' E':=
 Calls.mono h fun e _ h=>by cases e <;> first | exact hr _ _ h | exact he _ _ h | exact h
def KfE(P:Program)(fn:Func)(R:Value→World→Prop)(E:List PanicEntry→World→Prop):Ks:={ norm:=Fin P fn R,ret:=Fin P fn R,ex:=fun _ _ _=>False,pn:=fun c a w=>a.defers=[]∧E c w }
theorem sw{f:FuncId}{fn:Func}{vs:List Value}{R:Value→World→Prop}{E:List PanicEntry→World→Prop}(hf:P.funcs[f]?=some fn)(hb:fn.body.isSome=true)(hn:fn.ntmps=n)(hl:Nat.ble vs.length n=true)
 (h:∀ (k:Ks) [cH k],(∀ a w,Fin P fn R a w→k.ret a w)→(∀ a w,Fin P fn R a w→k.norm a w)→(∀ c a w,a.defers=[]→E c w→k.pn c a w)→HW P none (XS fn) k n [] (eJ 0 vs) w):CE P f vs w R E:=by
 obtain ⟨c,hc⟩:=Option.isSome_iff_exists.1 hb
 have lk:XS fn=c:=by simp [XS,hc]
 refine calls_of_wp hf hc ?_
 have dV:=Fr.init vs n (by simpa using hl)
 haveI:cH (KfE P fn R E):=⟨fun c a d v w h=>by cases d <;> exact h⟩
 have hW:=h (KfE P fn R E) (fun _ _ h=>h) (fun _ _ h=>h) (fun _ _ _ h1 h2=>⟨h1,h2⟩) _ dV
 rw [lk] at hW
 have zc:c.wp P (KfE P fn R E).q { tmps:=vs.toArray++Array.replicate (n-vs.toArray.size) undef,defers:=[] } w:=wpIn_wide.1 hW
 subst hn
 refine wp_mono zc fun e a w' hq=>?_
 cases e with
 | normal=>obtain ⟨hd,v,hr,hR⟩:=hq; exact ⟨hd,v,hr,hR⟩
 | ret=>obtain ⟨hd,v,hr,hR⟩:=hq; exact ⟨hd,v,hr,hR⟩
 | exit i=>exact hq.elim
 | goto l=>exact hq.elim
 | panic c=>exact hq
 | outgrown=>exact hq.elim
inductive Rs(P:Program)(w:World)(S:List (Nat×Value)):List ResultVar→List Value→Prop where
 | nil:Rs P w S [] []
 | tmp {t:Tmp} {v:Value} {rs:List ResultVar} {vs:List Value} (h:look S t=some v) (hr:Rs P w S rs vs):Rs P w S (.tmp t::rs) (v::vs)
 | cell {t T m off:Nat} {v:Value} {rs:List ResultVar} {vs:List Value} (h:look S t=some (.pointer (some ⟨m,off,none⟩))) (hv:(loadVar T ⟨m,off,none⟩).run P w=.ok v w) (hr:Rs P w S rs vs):Rs P w S (.cell t T::rs) (v::vs)
def Mq:List Value→Value | [v]=>v | vs=>.tuple ⟨vs⟩
inductive Tup:List Value→Value→Prop where
 | nil:Tup [] (.tuple ⟨[]⟩)
 | one {v:Value}:Tup [v] v
 | more {a b:Value} {l:List Value}:Tup (a::b::l) (.tuple ⟨a::b::l⟩)
theorem Tup.eq{vs:List Value}{v:Value}(h:Tup vs v):Mq vs=v:=by cases h <;> rfl
def ll(tmps:Array Value):ResultVar→Sem Value
 | .tmp t=>pure (tmps.getD t undef)
 | .cell x T=>do loadVar T (← asAddr (tmps.getD x undef))
theorem Rs.run{a:Act}{rs:List ResultVar}{vs:List Value}(h:Rs P w S rs vs)(hf:Fr a n D S):(rs.mapM (ll a.tmps)).run P w=.ok vs w:=by
 induction h with
 | nil=>rfl
 | tmp h hr ih=>
  have:=hf.get _ _ h
  simp [List.mapM_cons,ll,Array.getD_eq_getD_getElem?,this,ih]
 | cell h hv hr ih=>
  have:=hf.get _ _ h
  simp [List.mapM_cons,ll,Array.getD_eq_getD_getElem?,this,asAddr,hv,ih]
theorem fin{K:Act→World→Prop}{fn:Func}{R:Value→World→Prop}{rs:List ResultVar}{vs:List Value}{v:Value}(hk:∀ a w,Fin P fn R a w→K a w)(hr:fn.results.toList=rs)(h:Rs P w S rs vs)(ht:Tup vs v)(hR:R v w):Ro K n [] S w:=fun a hf=>by
 rw [← ht.eq] at hR
 refine hk a w<|⟨hf.defers,Mq vs,?_,hR⟩
 have:=h.run hf
 subst hr
 have he:results fn a.tmps=(do
  let vs ← fn.results.mapM (ll a.tmps)
  pure (if h:vs.size=1 then vs[0] else .tuple vs)):=rfl
 rw [he,Sem.run_bind,Array.mapM_eq_mapM_toList]
 simp only [Sem.run_map,this,Result.andThen_ok,Sem.run_pure]
 congr 1
 match vs with
 | []=>rfl
 | [v]=>rfl
 | v::u::l=>simp [Mq]
end
end Go.Cx
namespace Go.Cx
open Go
section
variable {S:List (Nat×Value)}{x:Operand}{v:Value}{xs:List Operand}{vs:List Value}
theorem gvT{c b:Bool}(h:c=b)(v:Value):gv c b v=v:=by simp [gv,h]
theorem gx{c b:Bool}(hc:c=b)(h:ev S x=some (gv c b v)):ev S x=some v:=by rw [h,gvT hc]
theorem IS{c b d b':Bool}(h:(c==b&&d==b')=true):c=b:=by simp at h; exact h.1
theorem ZV{c b d b':Bool}(hc:c=b)(h:ev S x=some (gv (c==b&&d==b') true v)):ev S x=some (gv d b' v):=by
 rw [h]; subst hc; simp [gv]
theorem QL:fL S []=some []:=rfl
theorem J8(hx:ev S x=some v)(hr:fL S xs=some vs):fL S (x::xs)=some (v::vs):=by simp [fL,hx,hr]
end
section
variable {P:Program}{md:Md}{w:World}{n:Nat}{D:List Deferred}{S:List (Nat×Value)}{o:Oper}
theorem JA{b c:Bool}(hy:∀ a,Fr a n D S→Yl P md w a o (.bool b))(h:b=c):∀ a,Fr a n D S→Yl P md w a o (.bool c):=h▸hy
theorem cy{u v:Value}(hy:∀ a,Fr a n D S→Yl P md w a o u)(h:u=v):∀ a,Fr a n D S→Yl P md w a o v:=h▸hy
variable {dst:Option Tmp}{ty:TypeId}{pos:String}{af:Array Edge}{g:Option (Nat×Bool)}
theorem Gb{c x y:Operand}{v:Value}(hc:ev S c=some (.bool true))(hx:ev S x=some v):∀ a,Fr a n D S→Yl P md w a ⟨dst,.pick c x y,ty,pos,af,g⟩ v:=fun a hf u _=>by
 simp [execOp,hf.eval hc,hf.eval hx,asBool]
theorem Gc{c x y:Operand}{v:Value}(hc:ev S c=some (.bool false))(hy:ev S y=some v):∀ a,Fr a n D S→Yl P md w a ⟨dst,.pick c x y,ty,pos,af,g⟩ v:=fun a hf u _=>by
 simp [execOp,hf.eval hc,hf.eval hy,asBool]
theorem BH{t yt:TypeId}{x y:Operand}{a b:ByteArray}(hx:ev S x=some (.string a))(hy:ev S y=some (.string b)) :
 ∀ c,Fr c n D S→Yl P md w c ⟨dst,.binOp .eql t x y yt,ty,pos,af,g⟩ (.bool (a.toList==b.toList)):=QU hx hy fun u=>by
 simp [eqGuard,binOp,Op.stringOp]
end
section
variable {P:Program}{r:Option Nat}{k:Ks}{ops:Array Oper}{md:Md}{n:Nat}{D:List Deferred}{S:List (Nat×Value)}{w:World}{i j l:Nat}{t u v:Tr}
theorem RE(h:HR P r k ops none n D S t w):HR P r k ops md n D S (.cut t) w:=fun a hf=>h a hf
theorem QN(h1:HR P r k ops md n D S (.act i t) w)(h2:HR P r k ops md n D S (.act j u) w):HR P r k ops md n D S (.act2 i t j u) w:=fun a hf=>⟨h1 a hf,h2 a hf⟩
theorem ke(h1:HR P r k ops md n D S (.act i t) w)(h2:HR P r k ops md n D S (.act j u) w)(h3:HR P r k ops md n D S (.act l v) w):HR P r k ops md n D S (.act3 i t j u l v) w:=fun a hf=>⟨h1 a hf,h2 a hf,h3 a hf⟩
end
theorem Qo{Q:World→Prop}{w:World}(h:Q w):∀ u,cN none w u→Q u:=fun u hu=>by cases hu; exact h
theorem Ql{x:Int}(h1:-9223372036854775808≤x)(h2:x≤9223372036854775807):IntKind.i64.wrap x=x:=by
 have e:IntKind.i64.wrap x=if (x%18446744073709551616)≥9223372036854775808 then x%18446744073709551616-18446744073709551616 else x%18446744073709551616:=by
  simp [IntKind.wrap,IntKind.signed,IntKind.bits]
 rw [e]
 split <;> omega
theorem iJ{x:Int}(h1:0≤x)(h2:x≤18446744073709551615):IntKind.u64.wrap x=x:=by
 have e:IntKind.u64.wrap x=x%18446744073709551616:=by simp [IntKind.wrap,IntKind.signed,IntKind.bits]
 rw [e]; omega
end Go.Cx
