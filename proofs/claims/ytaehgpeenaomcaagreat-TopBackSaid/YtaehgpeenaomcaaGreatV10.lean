/- Part 11 of the proof of TopBack: CmA SrA GrA GrB CzA GrC GrD LayA Srt IxC. Conditions: the hypotheses of each theorem. -/
import Derived.Test.YtaehgpeenaomcaaGreatV09
import Derived.WideKeyRuns
import Derived.Maps.RangeRun
import Derived.Shelf.Sort.Plain
import Derived.Shelf.SlSortCmp.NoneTotal
import Derived.Shelf.Slices.In.SortNone
import Derived.Shelf.Slices.Turned
import Derived.Shelf.Slices.SearchI
import Derived.Shelf.Slices.Empties
import Derived.Shelf.Spec.SlicesInsertGrow
import Derived.Shelf.SlicesG.Cmp
import Derived.Test.YtaehgpeenaomcaaGreatChecked
set_option maxRecDepth 10000
set_option maxHeartbeats 4000000
set_option linter.unusedVariables false
set_option linter.unusedSimpArgs false
namespace Go.Cx
open Go
section
variable {κ:Type}[DecidableEq κ]{kv:κ→Value}
abbrev cG(κ:Type):=List (κ×Value×Nat)
def Vm(kv:κ→Value)(x:κ×Value×Nat):MapEntry:={ key:=kv x.1,val:=x.2.1,born:=x.2.2 }
abbrev fm(kv:κ→Value)(es:cG κ)(ck:Nat):ag:=.obj (.map ⟨es.map (Vm kv)⟩ ck)
def vu(k:κ):cG κ→Nat→Option (Nat×Value)
 | [],_=>none
 | x::r,i=>if k=x.1 then some (i,x.2.1) else vu k r (i+1)
def cE:cG κ→κ→Option Value
 | [],_=>none
 | x::r,k=>if k=x.1 then some x.2.1 else cE r k
def Zk(k:κ)(v:Value):cG κ→cG κ
 | []=>[]
 | x::r=>if k=x.1 then (k,v,x.2.2)::r else x::Zk k v r
def VS(es:cG κ)(ck:Nat)(k:κ)(v:Value):cG κ:=if (cE es k).isSome then Zk k v es else es++[(k,v,ck)]
def vw(es:cG κ)(ck:Nat)(k:κ):Nat:=if (cE es k).isSome then ck else ck+1
def Yp(k:κ):cG κ→cG κ
 | []=>[]
 | x::r=>if k=x.1 then r else x::Yp k r
theorem rA{k:κ}:∀ (es:cG κ) (i:Nat),(vu k es i).map (·.2)=cE es k
 | [],_=>rfl
 | x::r,i=>by
  simp only [vu,cE]
  split
  · rfl
  · exact rA r _
theorem uB{k:κ}{es:cG κ}{i:Nat}:vu k es i=none↔cE es k=none:=by
 rw [← rA es i]; simp
theorem ns{k:κ}{v u:Value}:∀ {es:cG κ} {i j:Nat},vu k es i=some (j,u)→i≤j∧(∃ x,es[j-i]?=some x∧x.1=k)∧(es.map (Vm kv)).modify (j-i) (fun e=>{ e with key:=kv k,val:=v })=(Zk k v es).map (Vm kv)∧(es.map (Vm kv)).eraseIdx (j-i)=(Yp k es).map (Vm kv)
 | [],i,j,h=>by simp [vu] at h
 | x::r,i,j,h=>by
  simp only [vu] at h
  split at h
  · rename_i hk
    simp only [Option.some.injEq,Prod.mk.injEq] at h
    obtain ⟨rfl,rfl⟩:=h
    refine ⟨LP _,⟨x,Tc,hk.symm⟩,?_,?_⟩
    · simp [Zk,hk,Vm,List.modify]
    · simp [Yp,hk]
  · rename_i hk
    obtain ⟨h1,⟨y,h2,h3⟩,h4,h5⟩:=ns (v:=v) h
    have hj:j-i=(j-(i+1))+1:=by omega
    refine ⟨Ta,⟨y,by rw [hj]; exact h2,h3⟩,?_,?_⟩
    · rw [hj]; simp only [Ka,Zk,LH hk,List.modify_succ_cons]; rw [← h4]
    · rw [hj]; simp only [Ka,Yp,LH hk,List.eraseIdx_cons_succ]; rw [← h5]
theorem yA{k:κ}{v:Value}:∀ {es:cG κ},(cE es k).isSome=true→∀ j,cE (Zk k v es) j=if j=k then some v else cE es j
 | [],h,j=>by simp [cE] at h
 | x::r,h,j=>by
  unfold cE at h
  unfold Zk
  by_cases hk:k=x.1
  · rw [LI hk]
    unfold cE
    by_cases hj:j=k
    · simp [hj]
    · rw [LH hj,LH hj,LH (by rw [← hk]; exact hj)]
  · rw [LH hk] at h ⊢
    unfold cE
    rw [yA h j]
    by_cases hj:j=x.1
    · rw [LI hj,LH (by rw [hj]; exact fun e=>hk e.symm),LI hj]
    · rw [LH hj,LH hj]
theorem yB{k:κ}{v:Value}{c:Nat}:∀ {es:cG κ},cE es k=none→∀ j,cE (es++[(k,v,c)]) j=if j=k then some v else cE es j
 | [],_,j=>by simp [cE]
 | x::r,h,j=>by
  unfold cE at h
  split at h
  · cases h
  · rename_i hk
    rw [List.cons_append]
    unfold cE
    rw [yB h j]
    by_cases hj:j=x.1
    · rw [LI hj,LH (by rw [hj]; exact fun e=>hk e.symm),LI hj]
    · rw [LH hj,LH hj]
theorem Y9(es:cG κ)(c:Nat)(k:κ)(v:Value)(j:κ):cE (VS es c k v) j=if j=k then some v else cE es j:=by
 unfold VS
 split
 · rename_i h; exact yA h j
 · rename_i h; exact yB (by simpa using h) j
theorem Ym{k:κ}:∀ {es:cG κ},(cE es k).isSome=true↔k∈es.map (·.1)
 | []=>by simp [cE]
 | x::r=>by
  unfold cE
  by_cases hk:k=x.1
  · simp [hk]
  · rw [LH hk,Ym (es:=r)]; simp [hk]
theorem D8{x:κ×Value×Nat}:∀ {es:cG κ},(es.map (·.1)).Nodup→x∈es→cE es x.1=some x.2.1
 | [],_,h=>by simp at h
 | y::r,hn,h=>by
  rw [Ka,List.nodup_cons] at hn
  unfold cE
  rcases LR.1 h with rfl | h
  · simp
  · rw [LH (fun e=>hn.1 (by rw [← e]; exact Ln.2 ⟨x,h,rfl⟩))]
    exact D8 hn.2 h
theorem yC{k:κ}:∀ {es:cG κ},(es.map (·.1)).Nodup→∀ j,cE (Yp k es) j=if j=k then none else cE es j
 | [],_,j=>by simp [cE,Yp]
 | x::r,hn,j=>by
  rw [Ka,List.nodup_cons] at hn
  unfold Yp
  by_cases hk:k=x.1
  · rw [LI hk]
    by_cases hj:j=k
    · rw [LI hj]
      have h:=hn.1
      rw [← hk,← hj] at h
      have h9:=mt (Ym (es:=r) (k:=j)).1 h
      cases hl:cE r j with
      | none=>rfl
      | some v=>exact absurd (by rw [hl]; rfl) h9
    · rw [LH hj,show cE (x::r) j=cE r j by simp only [cE]; rw [LH (by rw [← hk]; exact hj)]]
  · rw [LH hk]
    unfold cE
    rw [yC hn.2 j]
    by_cases hj:j=x.1
    · rw [LI hj,LH (by rw [hj]; exact fun e=>hk e.symm),LI hj]
    · rw [LH hj,LH hj]
structure WfG(es:cG κ)(ck:Nat):Prop where
 keys:(es.map (·.1)).Nodup
 borns:(es.map (·.2.2)).Nodup
 lt:∀ x∈es,x.2.2<ck
theorem WfG.nil{κ:Type}:WfG ([]:cG κ) 0:=⟨Tc,Tc,Tc⟩
theorem uC{k:κ}{v:Value}:∀ es:cG κ,(Zk k v es).map (·.1)=es.map (·.1)∧(Zk k v es).map (·.2.2)=es.map (·.2.2)
 | []=>⟨rfl,rfl⟩
 | x::r=>by
  unfold Zk
  split
  · rename_i h; simp [h]
  · simp [uC r]
theorem ib{k:κ}:∀ es:cG κ,(Yp k es).Sublist es
 | []=>by simp [Yp]
 | x::r=>by
  unfold Yp
  split
  · exact List.sublist_cons_self _ _
  · exact (ib r).cons_cons x
theorem WfG.set{es:cG κ}{ck:Nat}(h:WfG es ck)(k:κ)(v:Value):WfG (VS es ck k v) (vw es ck k):=by
 unfold VS vw
 split
 · obtain ⟨h1,h2⟩:=uC (k:=k) (v:=v) es
   refine ⟨by rw [h1]; exact h.keys,by rw [h2]; exact h.borns,fun x hx=>?_⟩
   have h3:x.2.2∈(Zk k v es).map (·.2.2):=Ln.2 ⟨x,hx,rfl⟩
   rw [h2] at h3
   obtain ⟨y,hy,e⟩:=Ln.1 h3
   rw [← e]; exact h.lt y hy
 · rename_i hk
   have y9:¬ k∈es.map (·.1):=fun h9=>hk (Ym.2 h9)
   refine ⟨?_,?_,fun x hx=>?_⟩
   · rw [Lx,Kg]
     refine ⟨h.keys,Tc,fun a ha b hb e=>?_⟩
     simp only [Ka,List.map_nil,Lf] at hb
     exact y9 (by rw [← hb,← e]; exact ha)
   · rw [Lx,Kg]
     refine ⟨h.borns,Tc,fun a ha b hb e=>?_⟩
     simp only [Ka,List.map_nil,Lf] at hb
     obtain ⟨y,hy,e2⟩:=Ln.1 ha
     have:=h.lt y hy
     omega
   · rcases Ls.1 hx with hx | hx
     · have:=h.lt x hx; omega
     · rw [Lf.1 hx]; simp
theorem WfG.del{es:cG κ}{ck:Nat}(h:WfG es ck)(k:κ):WfG (Yp k es) ck:=
 ⟨((ib es).map _).nodup h.keys,((ib es).map _).nodup h.borns,fun x hx=>h.lt x ((ib es).subset hx)⟩
structure MK(P:Program)(T:TypeId)(kv:κ→Value)(z:Value):Prop where
 ex:∃ kt et,P.underlying T=some (.map kt et)∧(∀ w:World,(zeroValue et).run P w=.ok z w)∧(∀ b a (w:World),(Instr.checkKey b 10000 kt (kv a)).run P w=.ok () w) ∧
  (∀ a (es:cG κ) (w:World),(Instr.findKey kt (kv a) (es.map (Vm kv))).run P w=.ok (vu a es 0) w)∧∀ a (w:World),(Instr.keyThatStays (kv a) (kv a)).run P w=.ok (kv a) w
end
def isZ:Value→Value→Bool
 | .int .i64 0,.int .i64 0=>true
 | .bool false,.bool false=>true
 | .slice none 0 0,.slice none 0 0=>true
 | _,_=>false
theorem Og{a b:Value}(h:isZ a b=true):a=b:=by
 unfold isZ at h
 split at h <;> first | rfl | cases h
def zrO(P:Program)(e:TypeId)(z:Value):Bool:=match P.info? e with | some i=>(match i.zero with | some v=>isZ v z | none=>false) | none=>false
theorem yD{P:Program}{e:TypeId}{z:Value}(h:zrO P e z=true)(w:World):(zeroValue e).run P w=.ok z w:=by
 unfold zrO at h
 split at h
 · rename_i i hi
   split at h
   · rename_i v hv
     simp [zeroValue,typeInfo,hi,hv,Og h]
   · cases h
 · cases h
def U7(P:Program)(T:TypeId)(z:Value):Bool:=match P.underlying T with
 | some (.map k e)=>(match P.underlying k with | some (.int .i64)=>true | _=>false)&&zrO P e z
 | _=>false
def U9(P:Program)(T:TypeId)(z:Value):Bool:=match P.underlying T with
 | some (.map k e)=>lA P k&&flat P k [.num .i64,.num .i64]&&zrO P e z
 | _=>false
def iD(x:Int):Value:=.int .i64 x
def yE(p:Int×Int):Value:=.agg ⟨[.int .i64 p.1,.int .i64 p.2]⟩
theorem HJ(x:Int){P:Program}(w:World):(Instr.keyThatStays (iD x) (iD x)).run P w=.ok (iD x) w:=by
 simp [Instr.keyThatStays,Instr.sameBits,iD]
theorem HK(x:Int×Int){P:Program}(w:World):(Instr.keyThatStays (yE x) (yE x)).run P w=.ok (yE x) w:=by
 have h:Instr.sameBits 10000 (yE x) (yE x)=true:=by
  rw [show (10000:Nat)=9999+1 from rfl]
  simp [Instr.sameBits,yE]
 unfold Instr.keyThatStays
 rw [h]
 rfl
theorem MK.i{P:Program}{T:TypeId}{z:Value}(h:U7 P T z=true):MK P T iD z:=by
 unfold U7 at h
 split at h
 · rename_i k e hu
   simp only [LJ] at h
   have hk:P.underlying k=some (.int .i64):=by
    have:=h.1
    split at this
    · rename_i h'; exact h'
    · cases this
   refine ⟨k,e,hu,yD h.2,fun b a w=>?_,fun a es w=>?_,fun a w=>HJ a w⟩
   · have:∀ m,(Instr.checkKey b (m+1) k (iD a)).run P w=.ok () w:=fun m=>by simp [Instr.checkKey,run_underlying hk]
     exact this 9999
   · have:∀ (es:cG Int) (i:Nat),Instr.findNow (.int .i64) (iD a) (es.map (Vm iD)) i=some (vu a es i):=by
      intro es
      induction es with
      | nil=>intro i; rfl
      | cons x r ih=>
       intro i
       simp only [Ka,Instr.findNow,vu]
       show (match Instr.sameNow (.int .i64) (.int .i64 a) (.int .i64 x.1) with | some true=>_ | some false=>_ | none=>_)=_
       simp only [Instr.sameNow,if_true]
       by_cases h:a=x.1
       · simp [h,Vm]
       · have:(a==x.1)=false:=by simpa using h
         simp only [this,LH h]
         exact ih _
     simp [Instr.findKey,run_underlying hk,this]
 · cases h
theorem MK.e{P:Program}{T:TypeId}{z:Value}(h:U9 P T z=true):MK P T yE z:=by
 unfold U9 at h
 split at h
 · rename_i k e hu
   simp only [LJ] at h
   obtain ⟨⟨dY,bY⟩,hz⟩:=h
   refine ⟨k,e,hu,yD hz,fun b a w=>?_,fun a es w=>?_,fun a w=>HK a w⟩
   · have uc:=dY
     unfold lA at uc
     split at uc
     · rename_i f g hu
       simp only [LJ,beq_iff_eq,bne_iff_ne,Bool.not_eq_true'] at uc
       obtain ⟨⟨⟨⟨⟨⟨Mr,Mt⟩,Bf⟩,RL⟩,Bg⟩,_⟩,_⟩:=uc
       cases e1:P.underlying f.type with
       | none=>simp [e1] at Bg
       | some d1=>
        cases e2:P.underlying g.type with
        | none=>cases d1 <;> simp [e1,e2] at Bg
        | some d2=>
         cases d1 <;> simp [e1,e2] at Bg
         cases d2 <;> simp at Bg
         have p1:=VT (P:=P) (cs:=#[.int .i64 a.1,.int .i64 a.2]) (off:=0) e1 rfl w
         have p2:=VT (P:=P) (cs:=#[.int .i64 a.1,.int .i64 a.2]) (off:=1) e2 rfl w
         have:∀ m,(Instr.checkKey b (m+2) k (yE a)).run P w=.ok () w:=fun m=>by simp [Instr.checkKey,yE,run_underlying hu,Bf,RL,Mr,Mt,p1,p2,run_underlying e1,run_underlying e2]
         exact this 9998
     · cases uc
   · rw [run_findKey_eq w (by unfold lA at dY; split at dY <;> simp_all)]
     have:∀ (es:cG (Int×Int)) (i:Nat),(Instr.findAsking k (yE a) (es.map (Vm yE)) i).run P w=.ok (vu a es i) w:=by
      intro es
      induction es with
      | nil=>intro i; simp [Instr.findAsking,vu]
      | cons x r ih=>
       intro i
       have hq:=Zy (cs:=[.int .i64 a.1,.int .i64 a.2]) (ds:=[.int .i64 x.1.1,.int .i64 x.1.2]) bY rfl rfl w
       have he:jq [.int .i64 a.1,.int .i64 a.2] [.int .i64 x.1.1,.int .i64 x.1.2]=decide (a=x.1):=by
        simp only [jq,lB,Bool.and_true]
        by_cases h:a=x.1
        · simp [h]
        · have:¬ (a.1=x.1.1∧a.2=x.1.2):=fun e=>h (Prod.ext e.1 e.2)
          rw [LN h]
          by_cases h1:a.1=x.1.1
          · have h2:¬ a.2=x.1.2:=fun e=>this ⟨h1,e⟩
            simp [h1,h2]
          · simp [h1]
       rw [he] at hq
       simp only [Ka,Instr.findAsking,vu,Sem.run_bind]
       show ((Op.equal k (.agg ⟨[.int .i64 a.1,.int .i64 a.2]⟩) (.agg ⟨[.int .i64 x.1.1,.int .i64 x.1.2]⟩)).run P w).andThen _=_
       rw [hq]
       by_cases h:a=x.1
       · simp [h,Vm]
       · simp only [Result.andThen_ok,LN h,L0,if_false,LH h]
         exact ih _
     exact this es 0
 · cases h
section
variable {κ:Type}[DecidableEq κ]{kv:κ→Value}{P:Program}{u w:World}{m ck:Nat}{es:cG κ}{T:TypeId}{z:Value}
theorem pR{k:κ}(hT:MK P T kv z)(h:u.heap[m]?=some (fm kv es ck).Jd)(c:Bool):(Instr.lookup T (.map (some m)) (kv k) c).run P u=.ok (if c then .tuple #[(cE es k).getD z,.bool (cE es k).isSome] else (cE es k).getD z) u:=by
 obtain ⟨kt,et,h1,h2,h3,h5,_⟩:=hT
 unfold Instr.lookup
 have h4:(getObj m).run P u=.ok (.map ⟨es.map (Vm kv)⟩ ck) u:=J6 (P:=P) h rfl
 have h6:=h5 k es u
 rw [← rA es 0]
 simp [run_underlying h1,h4]
 cases hx:vu k es 0 with
 | none=>rw [hx] at h6; cases c <;> simp [h3,h6,h2]
 | some x=>rw [hx] at h6; cases c <;> simp [h3,h6]
theorem Ea{k:κ}{v:Value}(hT:MK P T kv z)(h:u.heap[m]?=some (fm kv es ck).Jd):(Instr.mapUpdate T (.map (some m)) (kv k) v).run P u=.ok () { u with heap:=u.heap.setIfInBounds m (fm kv (VS es ck k v) (vw es ck k)).Jd }:=by
 obtain ⟨kt,et,h1,h2,h3,h5,h8⟩:=hT
 unfold Instr.mapUpdate
 have h4:(getObj m).run P u=.ok (.map ⟨es.map (Vm kv)⟩ ck) u:=J6 (P:=P) h rfl
 have h6:=h5 k es u
 have h7:=QE (P:=P) (o':=(fm kv (VS es ck k v) (vw es ck k)).Jd) h rfl
 cases hx:vu k es 0 with
 | none=>
  rw [hx] at h6
  have hl:=uB.1 hx
  simp only [VS,vw,hl,Option.isSome_none,L0,if_false,ag.Jd] at h7 ⊢
  simp [run_underlying h1,h4,h3,h6]
  rw [Lx] at h7
  exact h7
 | some x=>
  obtain ⟨i,w⟩:=x
  obtain ⟨_,⟨y,hy,Bj⟩,sV,_⟩:=ns (kv:=kv) (v:=v) hx
  rw [Nat.sub_zero] at hy sV
  have hl:(cE es k).isSome=true:=by rw [← rA es 0,hx]; rfl
  rw [hx] at h6
  simp only [VS,vw,hl,if_true,ag.Jd] at h7 ⊢
  simp [run_underlying h1,h4,h3,h6,hy,Vm,Bj,h8]
  rw [← h7,← sV]
  try simp
theorem Eb{k:κ}{ty ty2:TypeId}(hT:MK P T kv z)(h:u.heap[m]?=some (fm kv es ck).Jd):(Builtin.delete_ #[T,ty] ty2 #[.map (some m),kv k]).run P u=.ok (.tuple #[]) { u with heap:=u.heap.setIfInBounds m (fm kv (Yp k es) ck).Jd }:=by
 obtain ⟨kt,et,h1,h2,h3,h5,h8⟩:=hT
 unfold Builtin.delete_
 have h4:(getObj m).run P u=.ok (.map ⟨es.map (Vm kv)⟩ ck) u:=J6 (P:=P) h rfl
 have h6:=h5 k es u
 have h7:=QE (P:=P) (o':=(fm kv (Yp k es) ck).Jd) h rfl
 cases hx:vu k es 0 with
 | none=>
  rw [hx] at h6
  have hd:∀ es:cG κ,cE es k=none→Yp k es=es:=by
   intro es
   induction es with
   | nil=>intro _; rfl
   | cons x r ih=>
    intro hl
    unfold cE at hl
    unfold Yp
    split at hl
    · cases hl
    · rename_i hk; rw [LH hk,ih hl]
  rw [hd es (uB.1 hx)] at h7 ⊢
  simp only [ag.Jd] at h7 ⊢
  simp [run_underlying h1,h4,h3,h6,h7]
 | some x=>
  obtain ⟨i,w⟩:=x
  obtain ⟨_,⟨y,hy,Bj⟩,_,U'⟩:=ns (kv:=kv) (v:=z) hx
  rw [Nat.sub_zero] at hy U'
  rw [hx] at h6
  simp only [ag.Jd] at h7 ⊢
  simp [run_underlying h1,h4,h3,h6]
  rw [U']
  have h9:((Yp k es).map (Vm kv)).toArray=⟨(Yp k es).map (Vm kv)⟩:=rfl
  rw [h9,h7]
  rfl
theorem Ec{κ:Type}{kv:κ→Value}{es:cG κ}{r:Nat}{seen:List Nat}(hr:w.heap[r]?=some (Obj.mapIter (some m) ck ⟨seen⟩ ck))(hb:w.heap[m]?=some (fm kv es ck).Jd)(Ay:WfG es ck) :
 ((∀ x∈es,x.2.2∈seen)∧∀ ty,(Instr.next (.pointer (some ⟨r,0,none⟩)) false ty).run P w=.ok (.tuple #[.bool false]) w) ∨
 ∃ x∈es,x.2.2∉seen∧∃ w1:World,Ext No w w1∧w1.heap=w.heap∧∀ ty,(Instr.next (.pointer (some ⟨r,0,none⟩)) false ty).run P w=.ok (.tuple #[.bool true,kv x.1,x.2.1]) { w1 with heap:=w1.heap.setIfInBounds r (.mapIter (some m) ck ⟨seen++[x.2.2]⟩ ck) }:=by
 have Bg:∀ ty,Instr.next (.pointer (some ⟨r,0,none⟩)) false ty=Instr.next (.pointer (some ⟨r,0,none⟩)) false 0:=fun ty=>rfl
 have V':∀ x∈(⟨es.map (Vm kv)⟩:Array MapEntry).toList,x.born<ck:=fun x hx=>by
  obtain ⟨y,hy,rfl⟩:=Ln.1 hx
  exact Ay.lt y hy
 have hlf:(leftOf ⟨es.map (Vm kv)⟩ ⟨seen⟩).toList=(es.map (Vm kv)).filter fun e=>!seen.contains e.born:=by
  unfold leftOf; rw [Array.toList_filter]; simp
 rcases run_next_at (P:=P) w 0 r m ck ck ⟨seen⟩ ⟨es.map (Vm kv)⟩ ck hr hb V' (LP _) with ⟨h0,aN⟩ | ⟨e,he,w1,fS,aN⟩
 · refine .inl ⟨fun x hx=>?_,fun ty=>by rw [Bg]; exact aN⟩
   have h1:(leftOf ⟨es.map (Vm kv)⟩ ⟨seen⟩).toList=[]:=Ll.1 (by simpa using h0)
   rw [hlf,List.filter_eq_nil_iff] at h1
   have:=h1 (Vm kv x) (Ln.2 ⟨x,hx,rfl⟩)
   simpa [Vm] using this
 · rw [hlf] at he
   obtain ⟨he1,M8⟩:=L5.1 he
   obtain ⟨x,hx,rfl⟩:=Ln.1 he1
   refine .inr ⟨x,hx,by simpa [Vm] using M8,w1,?_,?_,fun ty=>?_⟩
   · rcases fS with rfl | rfl
     · exact Ext.refl _ _
     · exact Ext.drew w
   · rcases fS with rfl | rfl <;> rfl
   · rw [Bg,aN]
     simp [Vm,ChangeMaps.setBlock]
theorem Oh{κ:Type}{kv:κ→Value}{es:cG κ}{r:Nat}{seen:List Nat}{x:κ×Value×Nat}(hr:w.heap[r]?=some (Obj.mapIter (some m) ck ⟨seen++[x.2.2]⟩ ck))(hb:w.heap[m]?=some (fm kv es ck).Jd)(hx:x∈es)(Ay:WfG es ck) :
 (Instr.entry (.pointer (some ⟨r,0,none⟩))).run P w=.ok (.tuple #[kv x.1,x.2.1]) w:=by
 have h:=run_entry_at (P:=P) w r m ck ⟨seen⟩ ⟨es.map (Vm kv)⟩ ck (Vm kv x) (by rw [hr]; simp [Vm]) hb (Ln.2 ⟨x,hx,rfl⟩) (by
  show ((es.map (Vm kv)).map (·.born)).Nodup
  rw [List.map_map]
  exact Ay.borns)
 exact h
end
section
variable {P:Program}{r:Option Nat}{k:Ks}{ops:Array Oper}{md:Md}{n:Nat}{D:List Deferred}{S:Tk}{w:World}{i:Nat}{t:Tr}
variable {ty:TypeId}{pos:String}{af:Array Edge}{g:Option (Nat×Bool)}{dst:Option Tmp}{d:Nat}{w0:World}{X:Bs}{L:Tf}
variable {κ:Type}[DecidableEq κ]{kv:κ→Value}{z:Value}{es:cG κ}{m ck:Nat}{T:TypeId}
theorem Vz{x y:Operand}{v:Value}{kk:κ}(hx:ev S x=some (.map (some m)))(hy:ev S y=some v)(hv:v=kv kk)(hT:MK P T kv z)(hN:∀ u,cN md w u→u.heap[m]?=some (fm kv es ck).Jd) :
 ∀ a,Fr a n D S→Yl P md w a ⟨dst,.lookup T x y false,ty,pos,af,g⟩ ((cE es kk).getD z):=fun a hf u hu=>by
 subst hv
 simp [execOp,hf.eval hx,hf.eval hy,pR hT (hN u hu)]
theorem kC{x y:Operand}{v:Value}{kk:κ}(hx:ev S x=some (.map (some m)))(hy:ev S y=some v)(hv:v=kv kk)(hT:MK P T kv z)(hN:∀ u,cN md w u→u.heap[m]?=some (fm kv es ck).Jd) :
 ∀ a,Fr a n D S→Yl P md w a ⟨dst,.lookup T x y true,ty,pos,af,g⟩ (.tuple ⟨[(cE es kk).getD z,.bool (cE es kk).isSome]⟩):=fun a hf u hu=>by
 subst hv
 simp [execOp,hf.eval hx,hf.eval hy,pR hT (hN u hu)]
theorem Oi{κ:Type}{kv:κ→Value}{es:cG κ}{x:Operand}{ts:Array TypeId}{kt et:TypeId}(hx:ev S x=some (.map (some m)))(dU:ts[0]?=some T)(hT:P.underlying T=some (.map kt et))(hN:∀ u,cN md w u→u.heap[m]?=some (fm kv es ck).Jd) :
 ∀ a,Fr a n D S→Yl P md w a ⟨dst,.call ⟨.builtin .len,#[x],ts⟩,ty,pos,af,g⟩ (.int .i64 (es.length:Int)):=fun a hf u hu=>by
 have h4:(getObj m).run P u=.ok (.map ⟨es.map (Vm kv)⟩ ck) u:=J6 (P:=P) (hN u hu) rfl
 simp [execOp,resolve,invoke,builtin,hf.eval hx,Builtin.len_,dU,run_underlying hT,h4,goInt]
theorem ZI{x y q:Operand}{v vk:Value}{kk:κ}(ho:j7 ops S i=some ⟨dst,.mapUpdate T x y q,ty,pos,af,g⟩)(hx:ev S x=some (.map (some m)))(hy:ev S y=some vk)(hv:vk=kv kk)(hz:ev S q=some v)(hT:MK P T kv z)
 (hm:Mem w0 w X L) (j:Nat) (hk:aR L j=some (m,fm kv es ck)) (h:∀ w',Mem w0 w' X (Qr L j (fm kv (VS es ck kk v) (vw es ck kk)))→HR P r k ops none n D S t w'):HR P r k ops none n D S (.act i t) w:=by
 subst hv
 have h1:=Ea (P:=P) (T:=T) (k:=kk) (v:=v) hT (hm.get hk)
 refine oK ho rfl (fun a hf=>?_) trivial (h _ (hm.setObj hk))
 simp [execOp,hf.eval hx,hf.eval hy,hf.eval hz,h1]
 rfl
theorem Oj{x y:Operand}{vk:Value}{kk:κ}{T2:TypeId}(ho:j7 ops S i=some ⟨dst,.call ⟨.builtin .delete,#[x,y],#[T,T2]⟩,ty,pos,af,g⟩)(hx:ev S x=some (.map (some m)))(hy:ev S y=some vk)(hv:vk=kv kk)(hT:MK P T kv z)
 (hm:Mem w0 w X L) (j:Nat) (hk:aR L j=some (m,fm kv es ck)) (h:∀ w',Mem w0 w' X (Qr L j (fm kv (Yp kk es) ck))→HR P r k ops none n D S t w'):HR P r k ops none n D S (.act i t) w:=by
 subst hv
 have h1:=Eb (P:=P) (T:=T) (ty:=T2) (ty2:=ty) (k:=kk) hT (hm.get hk)
 refine IZ (v:=.tuple ⟨[]⟩) ho rfl (fun a hf=>?_) trivial (h _ (hm.setObj hk))
 simp [execOp,resolve,invoke,builtin,hf.eval hx,hf.eval hy,h1]
 rfl
theorem ic{κ:Type}[DecidableEq κ](kv:κ→Value){T:TypeId}(ho:eL ops S i=some (⟨dst,.makeMap T none,ty,pos,af,g⟩,d))(hd:Nat.blt d n=true)(hm:Mem w0 w X L)(hh:aQ md w)
 (h:∀ m w',Ft md m→Mem w0 w' X ((m,fm kv [] 0)::L)→aQ md w'→HR P r k ops md n D ((d,.map (some m))::S) t w'):HR P r k ops md n D S (.act i t) w:=by
 have fM:aQ md (w.alloc (fm kv [] 0).Jd):=hh.ext (Qx _ _)
 refine Vv (w':=w.alloc (fm kv [] 0).Jd) ho hd rfl (fun a hf=>?_) fM (h _ _ hh.geq (hm.alloc _) fM)
 simp [execOp,Instr.makeMap,newObj]
 rfl
theorem nu{κ:Type}{kv:κ→Value}{es:cG κ}{x:Operand}{kt et:TypeId}(ho:eL ops S i=some (⟨dst,.range T x,ty,pos,af,g⟩,d))(hd:Nat.blt d n=true)(hx:ev S x=some (.map (some m)))(hT:P.underlying T=some (.map kt et))(hN:w.heap[m]?=some (fm kv es ck).Jd)(hm:Mem w0 w X L)
 (h:∀ q w',Mem w0 w' X ((q,.obj (.mapIter (some m) ck ⟨[]⟩ ck))::L)→HR P r k ops none n D ((d,.pointer (some ⟨q,0,none⟩))::S) t w'):HR P r k ops none n D S (.act i t) w:=by
 have h4:(getObj m).run P w=.ok (.map ⟨es.map (Vm kv)⟩ ck) w:=J6 (P:=P) hN rfl
 refine Vv (w':=w.alloc (Obj.mapIter (some m) ck ⟨[]⟩ ck)) ho hd rfl (fun a hf=>?_) trivial (h _ _ (hm.alloc (.obj (.mapIter (some m) ck ⟨[]⟩ ck))))
 simp [execOp,hf.eval hx,Instr.range,run_underlying hT,h4,newObj]
 rfl
theorem rB{x:Operand}{q:Nat}(ho:eL ops S i=some (⟨dst,.next x false,ty,pos,af,g⟩,d))(hd:Nat.blt d n=true)(hx:ev S x=some (.pointer (some ⟨q,0,none⟩)))(hr:∀ ty,(Instr.next (.pointer (some ⟨q,0,none⟩)) false ty).run P w=.ok (.tuple #[.bool false]) w)
 (h:HR P r k ops none n D ((d,.tuple ⟨[.bool false]⟩)::S) t w):HR P r k ops none n D S (.act i t) w:=by
 refine Vv (w':=w) ho hd rfl (fun a hf=>?_) trivial h
 simp [execOp,hf.eval hx,hr]
theorem rC{x:Operand}{q:Nat}{vs:Ti}{o o':Obj}{w1:World}(ho:eL ops S i=some (⟨dst,.next x false,ty,pos,af,g⟩,d))(hd:Nat.blt d n=true)(hx:ev S x=some (.pointer (some ⟨q,0,none⟩)))(hw:w1.heap=w.heap)(he:Ext No w w1)(hr:∀ ty,(Instr.next (.pointer (some ⟨q,0,none⟩)) false ty).run P w=.ok (.tuple ⟨vs⟩) { w1 with heap:=w1.heap.setIfInBounds q o' })
 (hm:Mem w0 w X L) (j:Nat) (hk:aR L j=some (q,.obj o)) (h:∀ w',Mem w0 w' X (Qr L j (.obj o'))→HR P r k ops none n D ((d,.tuple ⟨vs⟩)::S) t w'):HR P r k ops none n D S (.act i t) w:=by
 have rY:Mem w0 w1 X L:=hm.ext he
 refine Vv (w':={ w1 with heap:=w1.heap.setIfInBounds q o' }) ho hd rfl (fun a hf=>?_) trivial (h _ (rY.setObj hk))
 simp [execOp,hf.eval hx,hr]
theorem nv{κ:Type}{kv:κ→Value}{es:cG κ}{x:Operand}{q:Nat}{seen:List Nat}{e:κ×Value×Nat}(hx:ev S x=some (.pointer (some ⟨q,0,none⟩)))(hr:∀ u,cN md w u→u.heap[q]?=some (Obj.mapIter (some m) ck ⟨seen++[e.2.2]⟩ ck))(hN:∀ u,cN md w u→u.heap[m]?=some (fm kv es ck).Jd)(he:e∈es)(Ay:WfG es ck) :
 ∀ a,Fr a n D S→Yl P md w a ⟨dst,.entry x,ty,pos,af,g⟩ (.tuple ⟨[kv e.1,e.2.1]⟩):=fun a hf u hu=>by
 simp [execOp,hf.eval hx,Oh (hr u hu) (hN u hu) he Ay]
end
end Go.Cx
namespace Go.Cx
open Go Go.Sort Go.Shelf Go.Proofs Go.RowKit
def Az(w w':World)(g:Nat)(b b':ag):Prop:=(b.real=true∧b'.real=true∧Mem w w' (fun k=>k=g) [(g,b')])∨(b'=b∧Ext No w w')
theorem pS:∀ (L:Tf) (j g:Nat) (b:ag),aR L j=some (g,b)→Qr L j b=L
 | [],_,_,_,h=>by simp [aR] at h
 | (m,c)::r,0,g,b,h=>by simp only [aR,Option.some.injEq,Prod.mk.injEq] at h; obtain ⟨rfl,rfl⟩:=h; rfl
 | (m,c)::r,j+1,g,b,h=>by simp only [Qr]; rw [pS r j g b h]
theorem Mem.Ed{w0 w w':World}{X:Bs}{L:Tf}{g:Nat}{b b':ag}(h:Mem w0 w X L)(j:Nat)(hj:aR L j=some (g,b))(hc:Az w w' g b b'):Mem w0 w' X (Qr L j b'):=by
 rcases hc with ⟨h1,h2,h3⟩ | ⟨rfl,h3⟩
 · exact h.Qv (N:=[]) j hj h3 h1
 · rw [pS L j g _ hj]; exact h.ext h3
theorem Ol{w0 w':World}{n g:Nat}{os:Array Obj}{e:TypeId}{l l':Ti}{f:Array Value→Array Value}(hr:w0.heap[g]?=some (ag.row e l).Jd)(hw:w'=grow (mapBlock (Sort.ahead w0 n) g f) os)(hf:f ⟨l⟩=⟨l'⟩):Mem w0 w' (fun k=>k=g) [(g,.row e l')]:=by
 have aX:=(Lb.1 hr).1
 subst hw
 have Wa:∀ k,k<w0.heap.size→(grow (mapBlock (Sort.ahead w0 n) g f) os).heap[k]?=(w0.heap[k]?).map (if g=k then onCells f else id):=fun k hk=>by
  show ((w0.heap.modify g (onCells f))++os)[k]?=_
  rw [Array.getElem?_append_left (by simpa using hk),Array.getElem?_modify]
  split <;> simp
 refine ⟨rfl,rfl,rfl,?_,fun k hk bO=>?_,fun p hp _=>?_,fun p hp _=>?_,by simp [ak,ag.real]⟩
 · show w0.heap.size≤((w0.heap.modify g (onCells f))++os).size
   simp
 · rw [Wa k hk,LH (fun e=>bO e.symm)]; simp
 · rw [Lf.1 hp]
   rw [Wa g aX,LI rfl,hr]
   show some (onCells f (ag.row e l).Jd)=_
   simp only [ag.Jd,onCells,hf]
 · rw [Lf.1 hp]; exact .inl rfl
theorem Om{F:Array Value}{l:Ti}(h:F.size≤l.length):putCells id 0 F ⟨l⟩=⟨F.toList++l.drop F.size⟩:=by
 apply Array.ext_getElem?
 intro k
 simp only [putCells,Array.getElem?_mapIdx,LL,true_and,LV,Nat.sub_zero,id]
 have hA:∀ q:Ti,(⟨q⟩:Array Value)[k]?=q[k]?:=fun q=>by simp
 rw [hA,hA]
 by_cases hk:k<F.size
 · rw [La Ta,Option.map_some,LI hk,getElem!_pos F k hk,L3 (by simpa using hk),La (by simpa using hk)]
   simp
 · rw [L6 (by simpa using Nat.le_of_not_lt hk),Kc,show F.size+(k-F.toList.length)=k by simp; omega]
   cases hl:l[k]? with
   | none=>rfl
   | some v=>simp [hk]
theorem uD{α:Type}[Inhabited α]{enc:α→Ti}{k:Nat}(h0:0<k)(hk:∀ x,(enc x).length=k)(xs:List α):flatK enc k ⟨xs⟩=⟨xs.flatMap enc⟩:=by
 refine ext_get! (by simp [JW hk]) fun t ht=>?_
 have Mk:t<xs.length*k:=by simpa using ht
 rw [get_flatK _ _ _ _ Mk]
 have hd:t/k<xs.length:=Nat.div_lt_of_lt_mul (by rw [Nat.mul_comm]; exact Mk)
 have hm:t%k<k:=Nat.mod_lt _ h0
 have h1:=YR hk xs (t/k) (t%k) xs[t/k] (La hd) hm
 have h2:t/k*k+t%k=t:=by rw [Nat.mul_comm]; exact Nat.div_add_mod t k
 rw [h2] at h1
 have h3:(⟨xs⟩:Array α)[t/k]! = xs[t/k]:=by rw [getElem!_pos _ _ (by simpa using hd)]; rfl
 rw [h3]
 have hl:=hk xs[t/k]
 rw [getElem!_pos _ _ (by rw [hl]; exact hm),getElem!_pos _ _ (by simp [JW hk]; exact Mk)]
 have h4:(xs.flatMap enc)[t]?=some (enc xs[t/k])[t%k]:=by rw [h1]; exact La _
 exact ((Le.1 h4).2).symm
theorem Ee{w:World}{g:Nat}{e:TypeId}{l:Ti}(hr:w.heap[g]?=some (ag.row e l).Jd){F:Array Value}(hF:F.toList=l.take F.size)(hs:F.size≤l.length):Holds id w g 0 F:=fun j hj=>by
 refine ⟨?_,VX hr⟩
 have h1:F.toList[j]?=l[j]?:=by rw [hF,LF,LI hj]
 rw [VH hr,LV,← h1,getElem!_pos F j hj,La (by simpa using hj)]
 simp
theorem yF{α:Type}{enc:α→Ti}{k e g cap n:Nat}{p:Tg}{b:ag}{xs ys:List α}{w0 w':World}{os:Array Obj}(hk:∀ x,(enc x).length=k)(h0:0<xs.length)(ha:Acc e k p xs.length cap (xs.flatMap enc) g b)(hr:b.real=true→w0.heap[g]?=some b.Jd)(hl:ys.length=xs.length)(hw:w'=grow (mapBlock (Sort.ahead w0 n) g (putCells id 0 ⟨ys.flatMap enc⟩)) os) :
 ∃ b',Acc e k p ys.length cap (ys.flatMap enc) g b'∧b'.real=b.real∧Mem w0 w' (fun k=>k=g) [(g,b')]:=by
 rcases ha.cases' with ⟨h1,_,_⟩ | ⟨l,hpg,hB,hc,r5,h4⟩
 · omega
 · subst hpg hB
   have hsz:(ys.flatMap enc).length≤l.length:=by rw [JW hk,hl,r5]; exact Lr _ hc
   refine ⟨.row e (ys.flatMap enc++l.drop (ys.flatMap enc).length),⟨JW hk _,.inr ⟨_,rfl,rfl,Ta,?_,?_⟩⟩,rfl,Ol (hr rfl) hw (Om (F:=⟨ys.flatMap enc⟩) hsz)⟩
   · rw [Lc,Lm]; omega
   · rw [← JW hk ys,Kj]
theorem HL{α:Type}(key:α→Int):SWO (ltOf fun x y:α=>Lib.compareInt (key x) (key y)):=by
 have h:∀ x y,ltOf (fun x y:α=>Lib.compareInt (key x) (key y)) x y=decide (key x<key y):=fun x y=>by
  unfold ltOf Lib.compareInt
  by_cases h1:key x<key y
  · simp [h1]
  · by_cases h2:key x>key y
    · simp [h1,h2]
    · simp [h1,h2]
 refine ⟨fun x=>by rw [h]; simp,fun x y z=>?_,fun x y z=>?_⟩
 · rw [h,h,h]; simp only [LO]; omega
 · rw [h,h,h]; simp only [decide_eq_false_iff_not]; omega
theorem KH{P:Program}{ρ:Ren}{α:Type}[Inhabited α](L:SlLaysF0.n6 P ρ)(k:Nat)(aE:∀ w,(isAgg (ρ.t 24)).run P w=.ok true w)(zE:∀ w,(Go.sizeOf (ρ.t 24)).run P w=.ok k w)(enc:α→Ti)(h0:0<k)(hk:∀ x,(enc x).length=k)(h1:∀ x,∀ v∈enc x,v.oneCell'=true)(key:α→Int)(fi:FuncId)
 (eg:∀ args w,(callFunc fi args).run P w=.ok (.enter fi args) w) (hc:∀ x y (W:World),Calls P fi #[.agg (enc x).toArray,.agg (enc y).toArray] W fun e w'=>e=.returned (.int .i64 (Lib.compareInt (key x) (key y)))∧∃ q Wb,w'=grow (W.drewN q) Wb)
 (p:Tg) (g cap:Nat) (b:ag) (e:TypeId) (xs:List α) (w0:World) (ha:Acc e k p xs.length cap (xs.flatMap enc) g b) (hr:b.real=true→w0.heap[g]?=some b.Jd) (hl:xs.length<4611686018427387904) :
 C P (ρ.f 6) [.slice p xs.length cap,.func (.func fi) #[] ⟨[]⟩] w0 fun v w'=>v=.tuple ⟨[]⟩∧∃ (ys:List α) (b':ag),ys.Perm xs∧(∀ (i j:Nat) x y,i<j→ys[i]?=some x→ys[j]?=some y→key x≤key y)∧Acc e k p ys.length cap (ys.flatMap enc) g b'∧Az w0 w' g b b':=by
 rcases Nat.eq_zero_or_pos xs.length with fN | fN
 · obtain rfl:=Ll.1 fN
   refine Calls.mono (AnyF.slices_SortFunc_none L p cap (.func (.func fi) #[] ⟨[]⟩) w0) fun e9 w' h9=>?_
   obtain ⟨rfl,rfl⟩:=h9
   exact ⟨_,rfl,rfl,[],b,List.Perm.refl _,Tc,ha,.inr ⟨rfl,Ext.refl _ _⟩⟩
 obtain ⟨l,rfl,hB,nP,r5,h4⟩:∃ l,p=some ⟨g,0,none⟩∧b=.row e l∧xs.length≤cap∧l.length=cap*k∧l.take (xs.length*k)=xs.flatMap enc:=by
  rcases ha.cases' with ⟨h1,_,_⟩ | h
  · omega
  · exact h
 have yG:=hr (by rw [hB]; rfl)
 rw [hB] at yG
 have bY:(⟨xs.flatMap enc⟩:Array Value).size=xs.length*k:=by simp [JW hk]
 have h:=AnyQ.slices_SortFunc L k aE zE enc hk h1 (fun x y=>Lib.compareInt (key x) (key y)) (HL key) fi #[] g 0 cap ⟨xs⟩ w0 eg (fun m os dk _ x y=>hc x y _) (by
  unfold HoldsK
  rw [uD h0 hk xs]
  exact Ee yG (by rw [bY,h4]) (by rw [bY,r5]; exact Lr _ nP)) (Lb.1 yG).1 hl
 refine Calls.mono h fun e9 w' h9=>?_
 obtain ⟨rfl,⟨ys⟩,n,os,⟨hs,_,hp⟩,NI,rfl⟩:=h9
 have hsz:ys.length=xs.length:=by simpa using hs
 have Wc:ys.Perm xs:=by
  have:=hp
  simp only [Array.toList_extract] at this
  rw [← LZ (l:=ys) (i:=xs.length) Ta]
  simpa [hsz] using this
 suffices h7:∃ b',Acc e k (some ⟨g,0,none⟩) ys.length cap (ys.flatMap enc) g b'∧b'.real=b.real∧Mem w0 (sortWorldK enc k w0 g 0 n ⟨ys⟩ os) (fun k=>k=g) [(g,b')] by
  obtain ⟨b',k1,k2,k3⟩:=h7
  refine ⟨_,rfl,rfl,ys,b',Wc,fun i j x y eZ hx hy=>?_,k1,.inl ⟨by rw [hB]; rfl,k2.trans (by rw [hB]; rfl),k3⟩⟩
  have hi:=(Le.1 hx)
  have hj:=(Le.1 hy)
  have:=NI i j (LL _) eZ (by have:=hj.1; simpa [← hsz] using this)
  rw [getElem!_pos _ _ (by simpa using hj.1),getElem!_pos _ _ (by simpa using hi.1)] at this
  obtain ⟨ki,dY⟩:=hi
  obtain ⟨dW,On⟩:=hj
  have e1:(⟨ys⟩:Array α)[j]=y:=On
  have e2:(⟨ys⟩:Array α)[i]=x:=dY
  rw [e1,e2] at this
  unfold ltOf Lib.compareInt at this
  simp only [decide_eq_false_iff_not] at this
  by_cases h3:key y<key x
  · simp [h3] at this
  · omega
 refine yF hk fN ha hr hsz (n:=n) (os:=os) ?_
 unfold sortWorldK putRowK putRow
 rw [uD h0 hk ys]
theorem P4(zs:Tj):zs.flatMap Cx.encI=zs.map (Value.int .i64):=by
 induction zs with
 | nil=>rfl
 | cons a r ih=>rw [Lk,ih]; rfl
theorem We{P:Program}{ρ:Ren}(L:Lays.n189 P ρ)(p:Tg)(g cap:Nat)(b:ag)(e:TypeId)(xs:Tj)(w0:World)(ha:Acc e 1 p xs.length cap (xs.flatMap Cx.encI) g b)(hr:b.real=true→w0.heap[g]?=some b.Jd)(hl:xs.length<4611686018427387904) :
 C P (ρ.f 189) [.slice p xs.length cap] w0 fun v w'=>v=.tuple ⟨[]⟩∧∃ b',Acc e 1 p xs.length cap ((xs.mergeSort fun x y=>decide (x≤y)).flatMap Cx.encI) g b'∧Az w0 w' g b b':=by
 have hs:(xs.mergeSort fun x y=>decide (x≤y)).length=xs.length:=List.length_mergeSort _
 rcases Nat.eq_zero_or_pos xs.length with fN | fN
 · obtain rfl:=Ll.1 fN
   refine Calls.mono (calls_of_every_depth fun D=>AnyS.slices_Sort_int_none_in L D p cap w0) fun e9 w' h9=>?_
   obtain ⟨rfl,rfl⟩:=h9
   exact ⟨_,rfl,rfl,b,by simpa using ha,.inr ⟨rfl,Ext.refl _ _⟩⟩
 obtain ⟨l,rfl,hB,nP,r5,h4⟩:∃ l,p=some ⟨g,0,none⟩∧b=.row e l∧xs.length≤cap∧l.length=cap*1∧l.take (xs.length*1)=xs.flatMap Cx.encI:=by
  rcases ha.cases' with ⟨h1,_,_⟩ | h
  · omega
  · exact h
 have yG:=hr (by rw [hB]; rfl)
 rw [hB] at yG
 rw [Nat.mul_one] at h4
 have hH:Holds (Value.int .i64) w0 g 0 xs.toArray:=fun j hj=>by
  have hj':j<xs.length:=by simpa using hj
  refine ⟨?_,VX yG⟩
  have h5:(xs.flatMap Cx.encI)[j]?=l[j]?:=by rw [← h4,LF,LI hj']
  rw [VH yG,LV,← h5,P4,Lt,La hj',getElem!_pos _ _ (by simpa using hj')]
  rfl
 refine Calls.mono (Any.slices_Sort_int L g 0 cap xs w0 hH (Lb.1 yG).1 hl) fun e9 w' h9=>?_
 obtain ⟨rfl,n,os,rfl⟩:=h9
 have h8:=yF (enc:=Cx.encI) (k:=1) (fun _=>rfl) fN ha hr hs (n:=n) (os:=os) (w':=grow (putRow (Value.int .i64) (Sort.ahead w0 n) g 0 (xs.mergeSort fun x y=>decide (x≤y)).toArray) os) (by
  unfold putRow
  congr 1
  refine mapBlock_congr _ _ _ _ fun c _ _ _=>?_
  generalize (xs.mergeSort fun x y=>decide (x≤y))=ys
  apply Array.ext_getElem?
  intro k
  simp only [putCells,Array.getElem?_mapIdx,LL,true_and,LV,Nat.sub_zero,id,P4,List.size_toArray,Lj]
  cases c[k]? with
  | none=>rfl
  | some v=>
   by_cases hk:k<ys.length
   · simp [hk]
   · simp [hk])
 obtain ⟨b',k1,k2,k3⟩:=h8
 rw [hs] at k1
 exact ⟨_,rfl,rfl,b',k1,.inl ⟨by rw [hB]; rfl,k2.trans (by rw [hB]; rfl),k3⟩⟩
end Go.Cx
namespace Go.Pl
def outs(E:Tl)(v:Int):List Int:=(E.filter fun e=>decide (e.1=v)).map (·.2)
def ins(E:Tl)(v:Int):List Int:=(E.filter fun e=>decide (e.2=v)).map (·.1)
def KI(n:Nat)(E:Tl)(e:Int×Int):Bool:=decide (0≤e.1)&&decide (e.1<n)&&decide (0≤e.2)&&decide (e.2<n)&&decide (e.1≠e.2)&&decide (e∉E)
def ie(n:Nat)(E:Tl)(e:Int×Int):List (Int×Int):=if KI n E e then E++[e] else E
theorem Ef(E:Tl)(a b v:Int):outs (E++[(a,b)]) v=if v=a then outs E a++[b] else outs E v:=by
 unfold outs
 by_cases h:v=a
 · subst h; simp
 · simp [h,Ne.symm h]
theorem HM(E:Tl)(a b v:Int):ins (E++[(a,b)]) v=if v=b then ins E b++[a] else ins E v:=by
 unfold ins
 by_cases h:v=b
 · subst h; simp
 · simp [h,Ne.symm h]
theorem Yj(E:Tl)(v:Int):(outs E v).length≤E.length:=by unfold outs; rw [Lj]; exact List.length_filter_le ..
theorem rD(E:Tl)(v:Int):(ins E v).length≤E.length:=by unfold ins; rw [Lj]; exact List.length_filter_le ..
theorem HN(n:Nat)(E:Tl)(e:Int×Int):(ie n E e).length≤E.length+1:=by unfold ie; split <;> simp
end Go.Pl
namespace Go.Cx
open Go
structure yH where
 k:Int
 xs:Tj
 p:Tg
 cap:Nat
 g:Nat
 b:ag
 c:Nat
def yH.en(a:yH):Int×Value×Nat:=(a.k,.slice a.p a.xs.length a.cap,a.c)
def nR(l:List yH):cG Int:=l.map yH.en
def jK(l:List yH):List (Nat×ag):=l.map fun a=>(a.g,a.b)
structure je(TI:Nat)(f:Int→Tj)(l:List yH)(ck:Nat):Prop where
 wf:WfG (nR l) ck
 mem:∀ a∈l,Acc TI 1 a.p a.xs.length a.cap (a.xs.flatMap encI) a.g a.b∧f a.k=a.xs
 no:∀ v,cE (nR l) v=none→f v=[]
theorem uE{κ:Type}[DecidableEq κ]{k:κ}{v u:Value}{c:Nat}{m2:cG κ}:∀ {m1:cG κ},k∉m1.map (·.1)→Zk k v (m1++(k,u,c)::m2)=m1++(k,v,c)::m2
 | [],_=>by simp [Zk]
 | x::r,h=>by
  simp only [Ka,LR,not_or] at h
  rw [List.cons_append,Zk,LH h.1,uE h.2,List.cons_append]
variable {TI ck:Nat}{f:Int→Tj}{l:List yH}
theorem je.take(h:je TI f l ck)(v:Int):∃ p cap g b R,(cE (nR l) v).getD (.slice none 0 0)=.slice p (f v).length cap∧Acc TI 1 p (f v).length cap ((f v).flatMap encI) g b ∧
 (∀ w0 w X A Y Z,Mem w0 w X (A++(Y++(jK l++Z)))→Mem w0 w X ((g,b)::(A++(Y++(R++Z))))) ∧
 ∀ p' n' aV g' b' x f',(∀ u,f' u=if u=v then f v++[x] else f u)→Acc TI 1 p' n' aV ((f v++[x]).flatMap encI) g' b'→∃ l',VS (nR l) ck v (.slice p' n' aV)=nR l' ∧
  (∀ w0 w X A Y Z,Mem w0 w X ((g',b')::(A++(Y++(R++Z))))→Mem w0 w X (A++(Y++(jK l'++Z))))∧je TI f' l' (vw (nR l) ck v):=by
 by_cases hv:(cE (nR l) v).isSome=true
 · obtain ⟨e,he,Wf⟩:=Ln.1 (Ym.1 hv)
   obtain ⟨a,ha,rfl⟩:=Ln.1 he
   obtain rfl:a.k=v:=Wf
   obtain ⟨MB,hf⟩:=h.mem a ha
   have hlk:=D8 h.wf.keys he
   obtain ⟨l1,l2,rfl⟩:=List.append_of_mem ha
   have hB:∀ q:yH,jK (l1++q::l2)=jK l1++(q.g,q.b)::jK l2:=fun q=>by simp [jK]
   have hE:∀ q:yH,nR (l1++q::l2)=nR l1++q.en::nR l2:=fun q=>by simp [nR]
   have hnk:a.k∉(nR l1).map (·.1):=fun hm=>by
    have:=h.wf.keys
    rw [hE,Lx,Kg] at this
    exact this.2.2 _ hm _ (Lo) rfl
   rw [hf]
   refine ⟨a.p,a.cap,a.g,a.b,jK l1++jK l2,?_,MB,fun w0 w X A Y Z hm=>?_,fun p' n' aV g' b' x f' HO uF=>?_⟩
   · rw [show cE (nR (l1++a::l2)) a.k=_ from hlk]; rfl
   · refine hm.perm ?_
     rw [hB]
     have:=List.perm_middle (l₁:=A++(Y++jK l1)) (l₂:=jK l2++Z) (a:=(a.g,a.b))
     simpa only [Lp,List.cons_append] using this
   · obtain rfl:=uF.QB Jq Tb
     have wS:VS (nR (l1++a::l2)) ck a.k (.slice p' (a.xs++[x]).length aV)=nR (l1++⟨a.k,a.xs++[x],p',aV,g',b',a.c⟩::l2):=by
      unfold VS
      rw [LI hv,hE,hE]
      exact uE hnk
     refine ⟨_,wS,fun w0 w X A Y Z hm=>?_,?_,?_,?_⟩
     · refine hm.perm ?_
       rw [hB]
       have:=(List.perm_middle (l₁:=A++(Y++jK l1)) (l₂:=jK l2++Z) (a:=(g',b'))).symm
       simpa only [Lp,List.cons_append] using this
     · rw [← wS]; exact h.wf.set _ _
     · intro q hq
       have P5:q∈l1++a::l2∧q.k≠a.k∨q=⟨a.k,a.xs++[x],p',aV,g',b',a.c⟩:=by
        rcases Ls.1 hq with h1 | h1
        · refine .inl ⟨Lw _ h1,fun e=>hnk (by rw [← e]; exact Ln.2 ⟨q.en,Ln.2 ⟨q,h1,rfl⟩,rfl⟩)⟩
        · rcases LR.1 h1 with h1 | h1
          · exact .inr h1
          · refine .inl ⟨Ly _ (LX _ h1),fun e=>?_⟩
            have:=h.wf.keys
            rw [hE,Lx,Kg] at this
            have:=this.2.1
            rw [Ka,List.nodup_cons] at this
            exact this.1 (by show a.k∈_; rw [← e]; exact Ln.2 ⟨q.en,Ln.2 ⟨q,h1,rfl⟩,rfl⟩)
       rcases P5 with ⟨h1,h2⟩ | rfl
       · rw [HO,LH h2]; exact h.mem q h1
       · exact ⟨uF,by rw [HO,LI rfl]⟩
     · intro u hu
       rw [← wS,Y9] at hu
       split at hu
       · cases hu
       · rw [HO,LH ‹_›]; exact h.no u hu
 · have hn:cE (nR l) v=none:=by simpa using hv
   have hf:=h.no v hn
   rw [hf]
   refine ⟨none,0,0,.gap,jK l,by rw [hn]; rfl,Acc.nil _ _ _ _,fun w0 w X A Y Z hm=>hm.JP,fun p' n' aV g' b' x f' HO uF=>?_⟩
   obtain rfl:=uF.QB Jq Tb
   have wS:VS (nR l) ck v (.slice p' ([]++[x]:Tj).length aV)=nR (l++[⟨v,[]++[x],p',aV,g',b',ck⟩]):=by
    unfold VS
    rw [LH hv]
    simp [nR,yH.en]
   refine ⟨_,wS,fun w0 w X A Y Z hm=>?_,?_,?_,?_⟩
   · refine hm.perm ?_
     have:=(List.perm_middle (l₁:=A++(Y++jK l)) (l₂:=Z) (a:=(g',b'))).symm
     simpa [jK] using this
   · rw [← wS]; exact h.wf.set _ _
   · intro q hq
     rcases Ls.1 hq with h1 | h1
     · rw [HO,LH (fun e=>hv (by rw [← e]; exact Ym.2 (Ln.2 ⟨q.en,Ln.2 ⟨q,h1,rfl⟩,rfl⟩)))]
       exact h.mem q h1
     · rw [Lf.1 h1]
       exact ⟨uF,by rw [HO,LI rfl]⟩
   · intro u hu
     rw [← wS,Y9] at hu
     split at hu
     · cases hu
     · rw [HO,LH ‹_›]; exact h.no u hu
theorem je.rd{w:World}(h:je TI f l ck)(v:Int){A Y Z:Tf}(ho:Jr w (A++(Y++(jK l++Z)))):∃ p cap,(cE (nR l) v).getD (.slice none 0 0)=.slice p (f v).length cap∧Rd w p ((f v).flatMap encI):=by
 obtain ⟨p,cap,g,b,R,h1,h2,h3,_⟩:=h.take v
 exact ⟨p,cap,h1,h2.rd (h3 _ _ _ A Y Z ho.start) 0 rfl⟩
structure HP(TI n:Nat)(E:Tl)(ee:cG (Int×Int))(ce:Nat)(lo li:List yH)(co ci:Nat):Prop where
 we:WfG ee ce
 he:∀ e,cE ee e=if e∈E then some (.bool true) else none
 ho:je TI (Pl.outs E) lo co
 hi:je TI (Pl.ins E) li ci
 ok:∀ e∈E,0≤e.1∧e.1<n∧0≤e.2∧e.2<n∧e.1≠e.2
 nd:E.Nodup
 le:n≤1048576
def grL(TG n m me mo mi:Nat)(ee:cG (Int×Int))(ce:Nat)(lo li:List yH)(co ci:Nat):List (Nat×ag):=
 (m,.row TG [.int .i64 (n:Int),.map (some me),.map (some mo),.map (some mi)])::(me,fm yE ee ce)::(mo,fm iD (nR lo) co)::(mi,fm iD (nR li) ci)::(jK lo++(jK li++[]))
def QP(TG TI n:Nat)(E:Tl)(m:Nat)(Z:Tf):Prop:=∃ me mo mi ee ce lo li co ci,HP TI n E ee ce lo li co ci∧Z=grL TG n m me mo mi ee ce lo li co ci
theorem je.nil(TI:Nat):je TI (fun _=>[]) [] 0:=⟨WfG.nil,Tc,fun _ _=>rfl⟩
theorem HP.nil(TI:Nat){n:Nat}(h:n≤1048576):HP TI n [] [] 0 [] [] 0 0:=⟨WfG.nil,by simp [cE],je.nil TI,je.nil TI,Tc,Tc,h⟩
theorem HP.jbq{TI n:Nat}{E:Tl}{ee:cG (Int×Int)}{ce:Nat}{lo li:List yH}{co ci:Nat}(h:HP TI n E ee ce lo li co ci)(e:Int×Int):(cE ee e).getD (.bool false)=.bool (decide (e∈E)):=by
 rw [h.he]
 by_cases h1:e∈E <;> simp [h1]
theorem HP.add{TI n:Nat}{E:Tl}{ee:cG (Int×Int)}{ce:Nat}{lo li lo' li':List yH}{co ci co' ci':Nat}{e:Int×Int}(h:HP TI n E ee ce lo li co ci)(hk:Pl.KI n E e=true)(h1:je TI (Pl.outs (E++[e])) lo' co')(h2:je TI (Pl.ins (E++[e])) li' ci'):HP TI n (E++[e]) (VS ee ce e (.bool true)) (vw ee ce e) lo' li' co' ci':=by
 simp only [Pl.KI,LJ,LO] at hk
 refine ⟨h.we.set _ _,fun u=>?_,h1,h2,fun u hu=>?_,?_,h.le⟩
 · rw [Y9,h.he]
   by_cases hu:u=e
   · simp [hu]
   · simp [hu]
 · rcases Ls.1 hu with hu | hu
   · exact h.ok u hu
   · rw [Lf.1 hu]; omega
 · rw [Kg]
   refine ⟨h.nd,Tc,fun a ha b hb=>?_⟩
   rw [Lf.1 hb]
   rintro rfl
   exact hk.2 ha
end Go.Cx
namespace Go.Cx
open Go
section
variable {κ β:Type}{es l:List (κ×β×Nat)}{x:κ×β×Nat}
def uG(es l:List (κ×β×Nat)):Prop:=∃ r,(l++r).Perm es
theorem uG.nil(es:List (κ×β×Nat)):uG es []:=⟨es,List.Perm.refl _⟩
theorem uG.sub(h:uG es l){x:κ×β×Nat}(hx:x∈l):x∈es:=by
 obtain ⟨r,hr⟩:=h
 exact hr.mem_iff.1 (Lw _ hx)
theorem uG.next(h:uG es l)(hx:x∈es)(hn:x.2.2∉l.map (·.2.2)):uG es (l++[x])∧l.length<es.length:=by
 obtain ⟨r,hr⟩:=h
 have h1:x∈r:=(Ls.1 (hr.mem_iff.2 hx)).resolve_left fun h=>hn (Ln.2 ⟨x,h,rfl⟩)
 obtain ⟨r1,r2,rfl⟩:=List.append_of_mem h1
 refine ⟨⟨r1++r2,?_⟩,?_⟩
 · refine List.Perm.trans ?_ hr
   rw [Lp]
   exact List.Perm.append_left l (by simpa using (List.perm_middle (l₁:=r1) (l₂:=r2) (a:=x)).symm)
 · have:=hr.length_eq
   simp only [Lc,Li] at this
   omega
theorem uG.done(h:uG es l)(hb:(es.map (·.2.2)).Nodup)(ha:∀ x∈es,x.2.2∈l.map (·.2.2)):l.Perm es:=by
 obtain ⟨r,hr⟩:=h
 cases r with
 | nil=>rwa [Lq] at hr
 | cons y r=>
  exfalso
  have h1:=ha y (hr.mem_iff.1 Tc)
  have h2:=(hr.map (·.2.2)).nodup_iff.2 hb
  rw [Lx,Kg] at h2
  exact h2.2.2 _ h1 _ Tc rfl
end
theorem QG{α:Type}{xs:List α}{k:Nat}{x:α}(h:xs[k]?=some x):xs.take (k+1)=xs.take k++[x]:=by rw [LC,h]; rfl
theorem Eg:∀ xs:Tj,(xs.flatMap encI).all (·.oneCell')=true
 | []=>rfl
 | x::r=>by simp only [Lk,List.all_append,Eg r,Bool.and_true]; rfl
theorem uH(xs:Tj):(xs.flatMap encI).length=xs.length*1:=JW Jq xs
theorem HQ{xs:Tj}(h:xs.flatMap encI=[]):xs=[]:=by
 have:=uH xs
 rw [h] at this
 exact Ll.1 (by simpa using this.symm)
structure SetM(es:cG Int)(ck:Nat):Prop where
 wf:WfG es ck
 tr:∀ u,cE es u=if u∈es.map (·.1) then some (.bool true) else none
theorem SetM.nil:SetM [] 0:=⟨WfG.nil,by simp [cE]⟩
theorem SetM.get{es:cG Int}{ck:Nat}(h:SetM es ck)(u:Int):(cE es u).getD (.bool false)=.bool (decide (u∈es.map (·.1))):=by
 rw [h.tr]
 by_cases h1:u∈es.map (·.1)
 · rw [LI h1,LQ h1]; rfl
 · rw [LH h1,LN h1]; rfl
theorem SetM.keys{es:cG Int}{ck:Nat}{u:Int}(h:SetM es ck)(hu:u∉es.map (·.1)):(VS es ck u (.bool true)).map (·.1)=es.map (·.1)++[u]:=by
 have h1:¬ ((cE es u).isSome=true):=by rw [h.tr,LH hu]; simp
 unfold VS
 rw [LH h1]
 simp
theorem SetM.add{es:cG Int}{ck:Nat}{u:Int}(h:SetM es ck)(hu:u∉es.map (·.1)):SetM (VS es ck u (.bool true)) (vw es ck u):=by
 refine ⟨h.wf.set _ _,fun k=>?_⟩
 rw [h.keys hu,Y9,h.tr]
 by_cases hk:k=u
 · subst hk; simp
 · rw [LH hk]
   by_cases h1:k∈es.map (·.1)
   · rw [LI h1,LI (Lw _ h1)]
   · rw [LH h1,LH (fun h=>(Ls.1 h).elim h1 fun h=>hk (Lf.1 h))]
end Go.Cx
namespace Go.Pl
def dP(xs:Tj):List Int:=xs.mergeSort fun x y=>decide (x≤y)
theorem Q3(xs:Tj):(dP xs).Perm xs:=List.mergeSort_perm ..
theorem Eh(xs:Tj):(dP xs).Pairwise (·≤·):=(List.pairwise_mergeSort (le:=fun x y:Int=>decide (x≤y)) (fun a b c h1 h2=>by simp only [LO] at *; omega) (fun a b=>by simp only [Bool.or_eq_true,LO]; omega) xs).imp fun h=>by simpa using h
theorem Oo{xs ys:Tj}(h:ys.Perm xs):dP ys=dP xs:=List.Perm.eq_of_pairwise (fun a b _ _ h1 h2=>Int.le_antisymm h1 h2) (Eh ys) (Eh xs) (((Q3 ys).trans h).trans (Q3 xs).symm)
theorem VE{α:Type}[DecidableEq α]:∀ {l m:List α},l.Nodup→(∀ x∈l,x∈m)→l.length≤m.length
 | [],_,_,_=>LL _
 | a::l,m,h,hs=>by
  rw [List.nodup_cons] at h
  have ha:=hs a (Lo ..)
  have h1:=VE (l:=l) (m:=m.erase a) h.2 fun x hx=>(List.mem_erase_of_ne fun e=>h.1 (by rw [← e]; exact hx)).2 (hs x (LX _ hx))
  have h2:=List.length_erase_of_mem ha
  have h3:=List.length_pos_of_mem ha
  rw [Li]
  omega
inductive Path(E:Tl)(a:Int):Int→Prop
 | one {b:Int}:(a,b)∈E→Path E a b
 | more {b c:Int}:Path E a b→(b,c)∈E→Path E a c
theorem X4{E:Tl}{a b:Int}:b∈outs E a↔(a,b)∈E:=by
 unfold outs
 simp only [Ln,L5,LO]
 constructor
 · rintro ⟨⟨x,y⟩,⟨h1,rfl⟩,rfl⟩; exact h1
 · intro h; exact ⟨(a,b),⟨h,rfl⟩,rfl⟩
theorem Zc{E:Tl}{a b:Int}:b∈ins E a↔(b,a)∈E:=by
 unfold ins
 simp only [Ln,L5,LO]
 constructor
 · rintro ⟨⟨x,y⟩,⟨h1,rfl⟩,rfl⟩; exact h1
 · intro h; exact ⟨(b,a),⟨h,rfl⟩,rfl⟩
theorem Path.target{E:Tl}{a b:Int}(h:Path E a b):b∈E.map (·.2):=by
 cases h with
 | one h=>exact Ln.2 ⟨_,h,rfl⟩
 | more _ h=>exact Ln.2 ⟨_,h,rfl⟩
structure RI(E:Tl)(a:Int)(seen stk:Tj):Prop where
 p1:∀ u∈seen,Path E a u
 p2:∀ u∈stk,Path E a u
 c1:∀ u∈outs E a,u∈seen∨u∈stk
 c2:∀ s∈seen,∀ u∈outs E s,u∈seen∨u∈stk
def Ei(E:Tl)(seen stk:Tj):Nat:=((E.map (·.2)).filter fun u=>decide (u∉seen)).length*(E.length+1)+stk.length
theorem RI.start(E:Tl)(a:Int):RI E a [] (outs E a):=⟨Tc,fun u h=>.one (X4.1 h),fun u h=>.inr h,Tc⟩
theorem RI.skip{E:Tl}{a w:Int}{seen stk:Tj}(h:RI E a seen (stk++[w]))(hw:w∈seen):RI E a seen stk:=by
 have h1:∀ u,u∈seen∨u∈stk++[w]→u∈seen∨u∈stk:=fun u hu=>by
  rcases hu with hu | hu
  · exact .inl hu
  · rcases Ls.1 hu with hu | hu
    · exact .inr hu
    · rw [Lf.1 hu]; exact .inl hw
 exact ⟨h.p1,fun u hu=>h.p2 u (Lw _ hu),fun u hu=>h1 u (h.c1 u hu),fun s hs u hu=>h1 u (h.c2 s hs u hu)⟩
theorem RI.push{E:Tl}{a w:Int}{seen stk:Tj}(h:RI E a seen (stk++[w])):RI E a (seen++[w]) (stk++outs E w):=by
 have hw:=h.p2 w Tc
 have h1:∀ u,u∈seen∨u∈stk++[w]→u∈seen++[w]∨u∈stk++outs E w:=fun u hu=>by
  rcases hu with hu | hu
  · exact .inl (Lw _ hu)
  · rcases Ls.1 hu with hu | hu
    · exact .inr (Lw _ hu)
    · exact .inl (Ly _ hu)
 refine ⟨fun u hu=>?_,fun u hu=>?_,fun u hu=>h1 u (h.c1 u hu),fun s hs u hu=>?_⟩
 · rcases Ls.1 hu with hu | hu
   · exact h.p1 u hu
   · rw [Lf.1 hu]; exact hw
 · rcases Ls.1 hu with hu | hu
   · exact h.p2 u (Lw _ hu)
   · exact .more hw (X4.1 hu)
 · rcases Ls.1 hs with hs | hs
   · exact h1 u (h.c2 s hs u hu)
   · rw [Lf.1 hs] at hu
     exact .inr (Ly _ hu)
theorem RI.done{E:Tl}{a:Int}{seen:Tj}(h:RI E a seen [])(u:Int):u∈seen↔Path E a u:=by
 refine ⟨h.p1 u,fun hp=>?_⟩
 induction hp with
 | one he=>exact (h.c1 _ (X4.2 he)).resolve_right Tc
 | more _ he ih=>exact (h.c2 _ ih _ (X4.2 he)).resolve_right Tc
theorem AA{u:Int}{seen:Tj}(hu:u∉seen):∀ {l:Tj},u∈l→(l.filter fun v=>decide (v∉seen++[u])).length<(l.filter fun v=>decide (v∉seen)).length:=by
 intro l hl
 have Oq:(l.filter fun v=>decide (v∉seen++[u]))=(l.filter fun v=>decide (v∉seen)).filter fun v=>decide (v≠u):=by
  rw [List.filter_filter]
  congr 1
  funext v
  rw [Bool.eq_iff_iff]
  simp only [Ls,Lf,not_or,LO,LJ,ne_eq,and_comm]
 rw [Oq]
 have vG:u∈l.filter fun v=>decide (v∉seen):=L5.2 ⟨hl,by simpa using hu⟩
 exact List.length_filter_lt_length_iff_exists.2 ⟨u,vG,Tc⟩
theorem Ej{E:Tl}{a w:Int}{seen stk:Tj}(h:RI E a seen (stk++[w]))(hw:w∉seen):Ei E (seen++[w]) (stk++outs E w)<Ei E seen (stk++[w]):=by
 have h1:=AA hw (h.p2 w Tc).target
 have h2:=Yj E w
 unfold Ei
 have h3:=Lr (E.length+1) h1
 rw [Nat.succ_mul] at h3
 simp only [Lc,Li,LA]
 omega
theorem Ek{E:Tl}{w:Int}{seen stk:Tj}:Ei E seen stk<Ei E seen (stk++[w]):=by
 unfold Ei
 simp only [Lc,Li,LA]
 omega
theorem AB{E:Tl}{a:Int}(h:E.length≤1000000):Ei E [] (outs E a)≤1000002000000:=by
 have h1:=Yj E a
 have h2:((E.map (·.2)).filter fun u=>decide (u∉([]:Tj))).length≤E.length:=by
  have:=List.length_filter_le (fun u=>decide (u∉([]:Tj))) (E.map (·.2))
  rwa [Lj] at this
 have h3:_*(E.length+1)≤1000000*1000001:=Nat.mul_le_mul (Ki h2 h) (Nat.succ_le_succ h)
 unfold Ei
 omega
theorem uI{n:Nat}{E:Tl}{a:Int×Int}(h:0≤a.1∧a.1<n∧0≤a.2∧a.2<n∧a.1≠a.2)(e:Int×Int):e∈ie n E a↔e∈E∨e=a:=by
 unfold ie
 by_cases ha:a∈E
 · rw [LH (by simp [KI,ha])]
   exact ⟨.inl,fun h=>h.elim id fun h=>h▸ha⟩
 · rw [LI (by simp [KI,ha,h])]
   simp
theorem HS(E:Tl)(seen stk:Tj):stk.length≤Ei E seen stk:=Nat.le_add_left ..
end Go.Pl
namespace Go.Cx
open Go
section
variable {P:Program}{r:Option Nat}{k:Ks}{a:Act}{w:World}{c:Code}{n:Nat}{D:List Deferred}{S:Tk}
def jbr:Code→Code | .scope c=>c | c=>c
def KJ:Code→Bool | .scope _=>true | _=>false
def KK:Code→Bool | .label _=>true | _=>false
theorem Vt{b:Frame}{k:List Item}{cs:List Frame}{c:Code}:Go.step P (lone (b.atR a (.code (.scope c)::k)) cs w)=.next (lone (b.atR a (.code c::.inScope c::k)) cs w):=
 step_lone_go (by simp [stepG,stepG.exec,Frame.atR])
theorem ot{b:Frame}{k:List Item}{cs:List Frame}{c:Code}:Go.step P (lone (b.atR a (.inScope c::k)) cs w)=.next (lone (b.atR a k) cs w):=
 step_lone_go (by simp [stepG,stepG.exec,Frame.atR])
theorem uJ{F:Fence}{n:Nat}{c:Code}{Q:Exit→Act→World→Prop}(h:c.wpIn F n P Q a w)(hg:∀ l a w,¬ Q (.goto l) a w):(Code.scope c).wpIn F n P Q a w:=fun b k cs hro hb hr=>by
 have h0:(lone (b.atR a (.code (.scope c)::k)) cs w).fenced P F:=fenced_calm hb hr rfl
 obtain ⟨e,a₁,w₁,hq,AD⟩:=h b (.inScope c::k) cs hro hb hr
 cases e with
 | normal=>exact ⟨.normal,a₁,w₁,hq,.head h0 Vt (StepsIn.trans AD (.one (fenced_calm hb hr rfl) ot))⟩
 | exit id=>
  have hx:exitTo id (.inScope c::k)=exitTo id k:=by simp [exitTo]
  exact ⟨.exit id,a₁,w₁,hq,fun k' hk=>.head h0 Vt (AD.1 k' (by rw [hx]; exact hk)),
   fun ZW hk=>let ⟨k₁,h1,h2⟩:=AD.2 ZW (by rw [hx]; exact hk); ⟨k₁,h1,.head h0 Vt h2⟩⟩
 | goto l=>exact absurd hq (hg _ _ _)
 | ret=>exact ⟨_,a₁,w₁,hq,.of_steps (.one h0 Vt) AD⟩
 | panic ch=>exact ⟨_,a₁,w₁,hq,.of_steps (.one h0 Vt) AD⟩
 | outgrown=>exact ⟨_,a₁,w₁,hq,.of_steps (.one h0 Vt) AD⟩
theorem El(hc:KJ c=true)(h:HW P r (jbr c) k n D S w):HW P r c k n D S w:=fun a hf=>by
 cases c <;> simp [KJ] at hc
 exact uJ (h a hf) fun l a w hq=>hq
theorem Em(hc:KK c=true)(h:GN k n D S w):HW P r c k n D S w:=fun a hf=>by
 cases c <;> simp [KK] at hc
 exact wpIn_label (h a hf)
end
end Go.Cx
namespace Go.Cx
open Go Go.Shelf Go.Proofs Go.RowKit
theorem KL{w:World}{a:Addr}{xs:Tj}(hr:Rd w (some a) (xs.flatMap encI))(bO:xs≠[]):a.spot=none∧∀ j,j<xs.length→w.cell? ⟨a.block,a.off+j,none⟩=some (.int .i64 (xs.getD j 0)):=by
 refine ⟨hr.1 fun e=>bO (HQ e),fun j hj=>hr.2 j _ ?_⟩
 rw [P4,Lt,La hj,List.getD_eq_getElem?_getD,La hj]
 rfl
theorem Wg{P:Program}{ρ:Ren}(L:Lays.n107 P ρ)(p:Tg)(cap:Nat)(xs:Tj)(x:Int)(w0:World)(hr:Rd w0 p (xs.flatMap encI))(hl:xs.length≤1000000000):C P (ρ.f 107) [.slice p xs.length cap,.int .i64 x] w0 fun v w'=>v=.bool (decide (x∈xs))∧Ext No w0 w':=by
 by_cases bO:xs=[]
 · subst bO
   refine Calls.mono (Any.slices_Contains_int_empty L p cap x w0) fun e w' h=>?_
   obtain ⟨rfl,rfl⟩:=h
   exact ⟨_,rfl,rfl,Ext.refl _ _⟩
 · cases p with
   | none=>exact absurd (HQ hr) bO
   | some a=>
    obtain ⟨b,o,sp⟩:=a
    obtain ⟨h1,h2⟩:=KL hr bO
    simp only at h1
    subst h1
    refine Calls.mono (Any.slices_Contains_int L b o xs.length cap xs x w0 (LP _) Ta h2) fun e w' h=>?_
    obtain ⟨rfl,rfl⟩:=h
    refine ⟨_,rfl,?_,Ext.refl _ _⟩
    rw [Lv,List.contains_eq_mem]
theorem jf:∀ (q:Nat) (w:World),Ext No w (w.drewN q):=fun q w=>⟨rfl,rfl,rfl,LP _,fun _ _ _=>rfl⟩
theorem bsI{P:Program}{ρ:Ren}(L:Lays2.n25 P ρ)(p:Tg)(cap:Nat)(xs:Tj)(x:Int)(w0:World)(hr:Rd w0 p (xs.flatMap encI))(hl:xs.length≤1000000000)(hs:xs.Pairwise (·≤·))(hn:x∉xs):C P (ρ.f 25) [.slice p xs.length cap,.int .i64 x] w0 fun v w'=>v=.tuple ⟨[.int .i64 ((xs.countP (·<x):Nat):Int),.bool false]⟩∧Ext No w0 w':=by
 by_cases bO:xs=[]
 · subst bO
   refine Calls.mono (Any.slices_BinarySearch_int_empty L p cap x w0) fun e w' h=>?_
   obtain ⟨rfl,h⟩:=h
   refine ⟨_,rfl,rfl,?_⟩
   first
   | (subst h; exact Ext.refl _ _)
   | (obtain ⟨q,rfl⟩:=h; exact jf q w0)
 · cases p with
   | none=>exact absurd (HQ hr) bO
   | some a=>
    obtain ⟨b,o,sp⟩:=a
    obtain ⟨h1,h2⟩:=KL hr bO
    simp only at h1
    subst h1
    refine Calls.mono (Any.slices_BinarySearch_int L b o xs.length cap xs x w0 (LP _) Ta h2 (by rwa [Lv])) fun e w' h=>?_
    obtain ⟨rfl,q,rfl⟩:=h
    refine ⟨_,rfl,?_,jf q w0⟩
    rw [Lv,List.contains_eq_mem,LN hn]
def Zo(e n cap:Nat)(p:Tg)(xs:Tj)(g:Nat)(b:ag):Prop:=
 n=xs.length∧((n=0∧cap=0)∨∃ off l,p=some ⟨g,off,none⟩∧b=.row e l∧l.length=off+cap∧n≤cap∧(l.drop off).take n=xs.flatMap encI)
theorem Zo.of{e n cap g:Nat}{p:Tg}{xs:Tj}{b:ag}(h:Acc e 1 p n cap (xs.flatMap encI) g b):Zo e n cap p xs g b:=by
 refine ⟨h.QB Jq Tb,?_⟩
 rcases h.cases' with ⟨h1,h2,_⟩ | ⟨l,h1,h2,h3,h4,h5⟩
 · exact .inl ⟨h1,h2⟩
 · exact .inr ⟨0,l,h1,h2,Ta,h3,by rw [List.drop_zero,← h5,Nat.mul_one]⟩
theorem Zo.rd{w0 w:World}{X:Bs}{L:Tf}{e n cap g:Nat}{p:Tg}{xs:Tj}{b:ag}(h:Zo e n cap p xs g b)(hm:Mem w0 w X L)(j:Nat)(hj:aR L j=some (g,b)):Rd w p (xs.flatMap encI):=by
 rcases h.2 with ⟨h1,h2⟩ | ⟨off,l,rfl,rfl,h3,h4,h5⟩
 · obtain rfl:=Ll.1 (h.1.symm.trans h1)
   cases p with
   | none=>rfl
   | some a=>exact ⟨fun h=>absurd rfl h,Tc⟩
 · exact Rd.row (hm.get hj) fun j v hj=>by
    rw [← h5,LF] at hj
    split at hj
    · simpa using hj
    · cases hj
theorem Zo.tail{e n cap g:Nat}{p:Tg}{x:Int}{xs:Tj}{b:ag}(h:Zo e n cap p (x::xs) g b):Zo e (n-1) (cap-1) (bP p cap 1 1) xs g b:=by
 have h0:=h.1
 rw [Li] at h0
 rcases h.2 with ⟨h1,h2⟩ | ⟨off,l,rfl,rfl,h3,h4,h5⟩
 · omega
 · refine ⟨Ta,?_⟩
   by_cases hc:cap=1
   · exact .inl ⟨Ta,Ta⟩
   · refine .inr ⟨off+1,l,?_,rfl,Ta,Ta,?_⟩
     · unfold bP; rw [LH hc]; rfl
     · rw [P4] at h5 ⊢
       have h6:(l.drop off).drop 1=l.drop (off+1):=by rw [List.drop_drop]
       have h7:=LM (List.drop 1) h5
       rw [List.drop_take,h6,Ka,List.drop_one,List.tail_cons] at h7
       exact h7
theorem Zo.le{e n cap g:Nat}{p:Tg}{xs:Tj}{b:ag}(h:Zo e n cap p xs g b):n≤cap:=by
 rcases h.2 with ⟨h1,h2⟩ | ⟨off,l,_,_,_,h4,_⟩ <;> omega
theorem ig{g:Nat}{e:TypeId}:∀ (vs l:Ti) (o:Nat) (w:World),w.heap[g]?=some (ag.row e l).Jd→o+vs.length≤l.length→w.setCells g o vs=w.setRow g ⟨l.take o++vs++l.drop (o+vs.length)⟩
 | [],l,o,w,h,_=>by
  have h1:(⟨l.take o++[]++l.drop (o+([]:Ti).length)⟩:Array Value)=⟨l⟩:=by simp
  rw [h1,setRow_self w g ⟨l⟩ e (0,0) h]
  rfl
 | v::r,l,o,w,h,hl=>by
  rw [Li] at hl
  show (w.setCell ⟨g,o,none⟩ v).setCells g (o+1) r=_
  have h1:(⟨l⟩:Array Value).setIfInBounds o v=⟨l.set o v⟩:=by simp
  rw [setCell_eq_setRow w g o ⟨l⟩ e (0,0) v h,h1,ig r (l.set o v) (o+1) _ (setRow_heap w g ⟨l⟩ ⟨l.set o v⟩ e (0,0) h) (by rw [List.length_set]; omega),setRow_setRow]
  congr 2
  have hs:l=l.take o++l[o]::l.drop (o+1):=by rw [List.getElem_cons_drop,Ke]
  have h2:(l.take o).length=o:=by rw [Lg]; omega
  generalize l.take o=A at *
  generalize l.drop (o+1)=R at *
  generalize l[o]=y at *
  subst hs
  subst h2
  rw [List.set_append_right _ _ (LP _),Nat.sub_self,List.set_cons_zero]
  have e1:(A++v::R).take (A.length+1)=A++[v]:=by rw [List.take_length_add_append]; rfl
  have e2:(A++v::R).drop (A.length+1+r.length)=R.drop r.length:=by rw [Nat.add_assoc,List.drop_length_add_append,Nat.add_comm 1,List.drop_succ_cons]
  have e3:(A++y::R).drop (A.length+(v::r).length)=R.drop r.length:=by rw [List.drop_length_add_append,Li,List.drop_succ_cons]
  rw [e1,e2,e3]
  simp
def Ot(w w':World)(g:Nat)(b:ag)(g':Nat)(b':ag):Prop:=(g'=g∧b.real=true∧b'.real=true∧Mem w w' (fun k=>k=g) [(g,b')])∨Mem w w' No [(g',b')]
theorem pT:∀ (L:Tf) (j g:Nat) (b b':ag),aR L j=some (g,b)→Qr L j b'=QQ L j (g,b')
 | [],_,_,_,_,h=>by simp [aR] at h
 | (m,c)::r,0,g,b,b',h=>by simp only [aR,Option.some.injEq,Prod.mk.injEq] at h; obtain ⟨rfl,rfl⟩:=h; rfl
 | x::r,j+1,g,b,b',h=>by simp only [Qr,QQ]; rw [pT r j g b b' h]
theorem Mem.Wh{w0 w w':World}{X:Bs}{L:Tf}{g g':Nat}{b b':ag}(h:Mem w0 w X L)(j:Nat)(hj:aR L j=some (g,b))(hc:Ot w w' g b g' b'):Mem w0 w' X (QQ L j (g',b')):=by
 rcases hc with ⟨rfl,h1,h2,h3⟩ | h3
 · have:=h.Qv (N:=[]) j hj h3 h1
   rwa [pT L j g' b b' hj] at this
 · exact (h.Jt h3).lay j hj
theorem YK{w0 w:World}{X:Bs}{L:Tf}{g:Nat}{e:TypeId}{l vs:Ti}{o:Nat}(hm:Mem w0 w X ((g,.row e l)::L))(hl:o+vs.length≤l.length):Mem w0 (w.setCells g o vs) X ((g,.row e (l.take o++vs++l.drop (o+vs.length)))::L):=by
 rw [ig vs l o w (hm.get (k:=0) rfl) hl]
 exact Qk hm (j:=0) rfl
theorem Ou{w0 w:World}{X:Bs}{L:Tf}{e:TypeId}{cs:Ti}{Z Y:Array Value}(hm:Mem w0 w X L):Mem w0 (w.alloc (.cells (cs.toArray++Z++Y) e)) X ((w.heap.size,.row e (cs++Z.toList++Y.toList))::L):=by
 have h:(Obj.cells (cs.toArray++Z++Y) e)=(ag.row e (cs++Z.toList++Y.toList)).Jd:=by
  simp only [ag.Jd]
  congr 1
  apply Array.ext'
  simp
 rw [h]
 exact hm.alloc _
theorem yI{w0 w:World}{X:Bs}{L:Tf}{e:TypeId}{cs:Ti}{Y:Array Value}(hm:Mem w0 w X L):Mem w0 (w.alloc (.cells (cs.toArray++Y) e)) X ((w.heap.size,.row e (cs++Y.toList))::L):=by
 have h:(Obj.cells (cs.toArray++Y) e)=(ag.row e (cs++Y.toList)).Jd:=by
  simp only [ag.Jd]
  congr 1
  apply Array.ext'
  simp
 rw [h]
 exact hm.alloc _
theorem En(q:Nat):(Builtin.zeroCells (Value.int .i64 0).cells q).toList.length=q:=by
 have h:(Value.int .i64 0).cells.size=1:=rfl
 simp [Builtin.zeroCells,h]
theorem jbs{P:Program}{ρ:Ren}{e:TypeId}(L:Lays2.n21 P ρ)(hT:ρ.t 3=e)(p:Tg)(cap:Nat)(xs:Tj)(g:Nat)(b:ag)(i:Nat)(x:Int)(vb vc:Nat)(w0:World)(ha:Zo e xs.length cap p xs g b)(hr:b.real=true→w0.heap[g]?=some b.Jd)(hv:w0.heap[vb]?=some (ag.row e [.int .i64 x]).Jd)(hg:b.real=true→vb≠g)(hl:xs.length≤1000000000)(hi:i≤xs.length)(AE:cap≤9223372036854775807) :
 C P (ρ.f 21) [.slice p xs.length cap,.int .i64 (i:Int),.slice (some ⟨vb,0,none⟩) 1 vc] w0 fun v w'=>∃ p' aV g' b',v=.slice p' (xs.length+1) aV∧Zo e (xs.length+1) aV p' (xs.take i++x::xs.drop i) g' b'∧Ot w0 w' g b g' b'∧aV≤9223372036854775807:=by
 subst hT
 have Fs:∀ j v,([.int .i64 x]:Ti)[j]?=some v→w0.cell? ⟨vb,0+j,none⟩=some v:=fun j v h=>by rw [VH hv,LV]; exact h
 have fy:∀ q c,q≤9223372036854775807→grownCap w0 q c (ρ.t 3)≤9223372036854775807:=fun q c h=>grownCap_le_maxLen w0 q c (ρ.t 3) h
 have Wj:∀ v∈([.int .i64 x]:Ti),v.oneCell'=true:=fun v h=>by rw [Lf.1 h]; rfl
 have yJ:(xs.take i++x::xs.drop i).length=xs.length+1:=by rw [Lc,Li,Lg,Lm]; omega
 rcases ha.2 with ⟨h1,h2⟩ | ⟨off,l,hp,hb,h3,h4,h5⟩
 · obtain rfl:=Ll.1 h1
   subst h2
   obtain rfl:i=0:=by simpa using hi
   refine Calls.mono (Any2.slices_Insert_int_end_grow L p 0 0 vb 0 1 vc [] [.int .i64 x] w0 Tb (LP _) Tb Tb rfl rfl (fun _=>rfl) (fun a _ j v h=>by simp at h) Fs Wj) fun e9 w' h=>?_
   obtain ⟨rfl,rfl⟩:=h
   have iA:=grownCap_ge w0 (0+1) 0 (ρ.t 3)
   refine ⟨_,rfl,_,_,w0.heap.size,_,rfl,⟨rfl,.inr ⟨0,_,rfl,rfl,?_,iA,?_⟩⟩,.inr (yI (cs:=[]++[.int .i64 x]) ((Mem.start w0).ext (Va w0))),fy _ _ Ta⟩
   · simp only [Lc,En,LA,Li]; omega
   · rfl
 · subst hp hb
   have FF:=hr rfl
   have uK:∀ j v,(xs.flatMap encI)[j]?=some v→w0.cell? ⟨g,off+j,none⟩=some v:=fun j v h=>by
    rw [← h5,LF] at h
    split at h
    · rw [VH FF]; simpa using h
    · cases h
   have bL:(xs.flatMap encI).length=xs.length:=by rw [uH,Nat.mul_one]
   have h1c:∀ v∈xs.flatMap encI,v.oneCell'=true:=fun v hv=>List.all_eq_true.1 (Eg xs) v hv
   obtain ⟨A,R,hlA,rfl⟩:∃ A R,A.length=off∧l=A++(xs.flatMap encI++R):=⟨l.take off,(l.drop off).drop xs.length,by rw [Lg]; omega,by rw [← h5,Ke,Ke]⟩
   subst hlA
   have hRl:R.length=cap-xs.length:=by simp only [Lc,bL] at h3; omega
   have hfm:(xs.take i++x::xs.drop i).flatMap encI=(xs.flatMap encI).take i++(.int .i64 x::(xs.flatMap encI).drop i):=by
    rw [P4,P4,Lx,Ka,List.map_take,List.map_drop]
   have Ov:((xs.flatMap encI).take i).length=i:=by rw [Lg,bL]; omega
   have Df:((xs.flatMap encI).drop i).length=xs.length-i:=by rw [Lm,bL]
   have Wk:=(Ke i (xs.flatMap encI)).symm
   by_cases hroom:xs.length+1≤cap
   · cases R with
     | nil=>simp at hRl; omega
     | cons r0 R=>
      rw [Li] at hRl
      rcases L7 i xs.length with aX | iA
      · refine Calls.mono (Any2.slices_Insert_int_shift L g A.length xs.length cap i vb 0 1 vc (xs.flatMap encI) [.int .i64 x] w0 aX Tb hroom AE (hg rfl) bL rfl uK (fun j hj=>?_) (fun j hj=>VX FF) Fs h1c Wj (ρ.t 3) (ρ.t 3) 1 (A++(xs.flatMap encI++r0::R)).length (by simp [World.shape?,hv,ag.Jd]) (by simp [World.shape?,FF,ag.Jd]) Tc (VX hv) (VX hv)) fun e9 w' h=>?_
        · rw [VH FF,La (by simp only [Lc,Li,bL]; omega)]; rfl
        · obtain ⟨rfl,rfl⟩:=h
          have rY:=YK (o:=A.length+(i+1)) (vs:=(xs.flatMap encI).drop i) ((Mem.Vq FF).ext (Va w0)) (by simp only [Lc,Li,bL,Df]; omega)
          have fb:=YK (o:=A.length+i) (vs:=[.int .i64 x]) rY (by simp only [Lc,Lg,Lm,Li,LA,bL,Df]; omega)
          refine ⟨_,rfl,_,_,g,_,rfl,⟨yJ.symm,.inr ⟨A.length,_,rfl,rfl,?_,hroom,?_⟩⟩,.inl ⟨rfl,rfl,rfl,fb⟩,AE⟩
          · simp only [Lc,Lg,Lm,Li,LA,bL,Df]; omega
          · rw [hfm]
            generalize (xs.flatMap encI).take i=c1 at *
            generalize (xs.flatMap encI).drop i=c2 at *
            generalize PI:xs.flatMap encI=c at *
            subst Wk
            subst Ov
            cases c2 with
            | nil=>simp at Df; omega
            | cons y c2=>
             have e1:(A++(c1++y::c2++r0::R)).take (A.length+(c1.length+1))=A++(c1++[y]):=by
              rw [List.take_length_add_append,Lp,List.take_length_add_append]; rfl
             have e2:(A++(c1++y::c2++r0::R)).drop (A.length+(c1.length+1)+(y::c2).length)=R:=by
              rw [Nat.add_assoc,List.drop_length_add_append,show c1.length+1+(y::c2).length=(c1++y::c2).length+1 by simp; omega,List.drop_length_add_append]; rfl
             rw [e1,e2]
             have e3:(A++(c1++[y])++y::c2++R).take (A.length+c1.length)=A++c1:=by
              rw [show A++(c1++[y])++y::c2++R=(A++c1)++([y]++y::c2++R) by simp,show A.length+c1.length=(A++c1).length by simp,Kj]
             have e4:(A++(c1++[y])++y::c2++R).drop (A.length+c1.length+([Value.int .i64 x]).length)=y::c2++R:=by
              rw [show A++(c1++[y])++y::c2++R=(A++c1++[y])++(y::c2++R) by simp,show A.length+c1.length+([Value.int .i64 x]).length=(A++c1++[y]).length by simp; omega,List.drop_left]
             rw [e3,e4]
             rw [show A++c1++[Value.int .i64 x]++(y::c2++R)=A++((c1++.int .i64 x::y::c2)++R) by simp,List.drop_left,show xs.length+1=(c1++Value.int .i64 x::y::c2).length by simp at bL ⊢; omega,Kj]
      · obtain rfl:i=xs.length:=by omega
        refine Calls.mono (Any2.slices_Insert_int_end_room L g A.length xs.length cap vb 0 1 vc [.int .i64 x] w0 Tb hroom AE rfl (fun j hj=>?_) (fun j hj=>VX FF) Fs Wj) fun e9 w' h=>?_
        · rw [VH FF,La (by simp only [Lc,Li,bL]; omega)]; rfl
        · obtain ⟨rfl,rfl⟩:=h
          have rY:=YK (o:=A.length+xs.length) (vs:=[.int .i64 x]) (Mem.Vq FF) (by simp only [Lc,Li,LA,bL]; omega)
          refine ⟨_,rfl,_,_,g,_,rfl,⟨yJ.symm,.inr ⟨A.length,_,rfl,rfl,?_,hroom,?_⟩⟩,.inl ⟨rfl,rfl,rfl,rY⟩,AE⟩
          · simp only [Lc,Lg,Lm,Li,LA,bL]; omega
          · rw [hfm]
            generalize PI:xs.flatMap encI=c at *
            rw [← bL]
            have e1:(A++(c++r0::R)).take (A.length+c.length)=A++c:=by rw [List.take_length_add_append,Kj]
            have e2:(A++(c++r0::R)).drop (A.length+c.length+([Value.int .i64 x]).length)=R:=by
             rw [Nat.add_assoc,List.drop_length_add_append,LG,List.drop_length_add_append]; rfl
            rw [e1,e2,Lv,List.drop_length,show A++c++[Value.int .i64 x]++R=A++((c++[.int .i64 x])++R) by simp,List.drop_left,show c.length+1=(c++[Value.int .i64 x]).length by simp,Kj]
   · have hRn:R=[]:=Ll.1 Ta
     rcases L7 i xs.length with aX | iA
     · refine Calls.mono (Any2.slices_Insert_int_grow L g A.length xs.length cap i vb 0 1 vc (xs.flatMap encI) [.int .i64 x] w0 aX Tb h4 Ta Ta bL rfl uK Fs h1c Wj) fun e9 w' h=>?_
       obtain ⟨rfl,rfl⟩:=h
       have iA:=grownCap_ge w0 (xs.length+1) cap (ρ.t 3)
       have ar:=Ou (cs:=(xs.flatMap encI).take i) (e:=ρ.t 3) (Z:=Builtin.zeroCells (Value.int .i64 0).cells (xs.length+1-i)) (Y:=Builtin.zeroCells (Value.int .i64 0).cells (grownCap w0 (xs.length+1) cap (ρ.t 3)-(xs.length+1))) (Mem.start w0)
       have rY:=YK (o:=i) (vs:=[.int .i64 x]) (ar.ext (Va _)) (by simp only [Lc,En,Li,LA,Ov]; omega)
       have fb:=YK (o:=i+1) (vs:=(xs.flatMap encI).drop i) (rY.ext (Va _)) (by simp only [Lc,Lg,Lm,En,Li,LA,bL]; omega)
       refine ⟨_,rfl,_,_,w0.heap.size,_,rfl,⟨yJ.symm,.inr ⟨0,_,rfl,rfl,?_,iA,?_⟩⟩,.inr fb,fy _ _ Ta⟩
       · simp only [Lc,Lg,Lm,En,Li,LA,bL]; omega
       · rw [hfm,List.drop_zero]
         generalize (Builtin.zeroCells (Value.int .i64 0).cells (grownCap w0 (xs.length+1) cap (ρ.t 3)-(xs.length+1))).toList=Y at *
         generalize (Builtin.zeroCells (Value.int .i64 0).cells (xs.length+1-i)).toList=Z at *
         generalize (xs.flatMap encI).take i=c1 at *
         generalize (xs.flatMap encI).drop i=c2 at *
         generalize PI:xs.flatMap encI=c at *
         subst Wk
         subst Ov
         rw [show c1++Z++Y=c1++(Z++Y) by simp,Kj]
         generalize (c1++(Z++Y)).drop (c1.length+([Value.int .i64 x]).length)=V
         have e1:(c1++[Value.int .i64 x]++V).take (c1.length+1)=c1++[.int .i64 x]:=by
          rw [show c1.length+1=(c1++[Value.int .i64 x]).length by simp,Kj]
         rw [e1]
         generalize (c1++[Value.int .i64 x]++V).drop (c1.length+1+c2.length)=V2
         rw [show c1++[Value.int .i64 x]++c2++V2=(c1++.int .i64 x::c2)++V2 by simp,show xs.length+1=(c1++Value.int .i64 x::c2).length by simp at bL ⊢; omega,Kj]
     · obtain rfl:i=xs.length:=by omega
       refine Calls.mono (Any2.slices_Insert_int_end_grow L (some ⟨g,A.length,none⟩) xs.length cap vb 0 1 vc (xs.flatMap encI) [.int .i64 x] w0 Tb h4 Ta Ta bL rfl (fun h=>by cases h) (fun a ha j v h=>?_) Fs Wj) fun e9 w' h=>?_
       · cases ha
         have lu:(⟨g,A.length,none⟩:Addr).add j=⟨g,A.length+j,none⟩:=by
          unfold Addr.add; split
          · rename_i h0; rw [h0]; rfl
          · simp
         rw [lu]; exact uK j v h
       obtain ⟨rfl,rfl⟩:=h
       have iA:=grownCap_ge w0 (xs.length+1) cap (ρ.t 3)
       refine ⟨_,rfl,_,_,w0.heap.size,_,rfl,⟨yJ.symm,.inr ⟨0,_,rfl,rfl,?_,iA,?_⟩⟩,.inr (yI (cs:=xs.flatMap encI++[.int .i64 x]) ((Mem.start w0).ext (Va w0))),fy _ _ Ta⟩
       · simp only [Lc,En,LA,Li,bL]; omega
       · rw [hfm,List.drop_zero,← bL,Lv,List.drop_length,show (xs.flatMap encI).length+1=(xs.flatMap encI++[Value.int .i64 x]).length by simp,Kj]
section
variable {P:Program}{r:Option Nat}{k:Ks}{ops:Array Oper}{n:Nat}{D:List Deferred}{S:Tk}{w:World}{i:Nat}{t:Tr}
variable {ty:TypeId}{pos:String}{af:Array Edge}{g:Option (Nat×Bool)}{dst:Option Tmp}{d:Nat}{w0:World}{X:Bs}{L:Tf}
theorem AF{T e es bs:Nat}{s x:Operand}{ts:Array TypeId}{p q:Tg}{na cap m c gg:Nat}{b:ag}{cells new z:Ti}{T2:TypeId}{x2:TypeId×Nat×Nat}
 (ho:eL ops S i=some (⟨dst,.call ⟨.builtin .append,#[s,x],ts⟩,ty,pos,af,g⟩,d)) (hd:Nat.blt d n=true) (hs:ev S s=some (.slice p na cap)) (hx:ev S x=some (.slice q m c)) (dU:ts[0]?=some T) (dQ:ts[1]?=some T2)
 (hT:QH P T=some (e,es,bs)) (oO:QH P T2=some x2) (hz:iF P e=some z) (cV:z.length=es) (h1:new.all (·.oneCell')=true) (hq:Rd w q new) (bR:new.length=m*es) (ha:Acc e es p na cap cells gg b)
 (hm:Mem w0 w X L) (j:Nat) (hj:aR L j=some (gg,b)) (hb:(na+m)*bs≤140737488355328) (rX:na+m<2 ^ 63) (hcp:cap≤9223372036854775807)
 (h:∀ p' aV g' b' w',Acc e es p' (na+m) aV (cells++new) g' b'→Mem w0 w' X (QQ L j (g',b'))→aV≤9223372036854775807→HR P r k ops none n D ((d,.slice p' (na+m) aV)::S) t w'):HR P r k ops none n D S (.act i t) w:=by
 obtain ⟨p',aV,g',b',w',aN,vE,vF,_⟩:=ha.append (c:=c) (ty:=ty) hT dU dQ oO hz cV h1 hq bR hm j hj hb rX
 obtain ⟨b7,gy⟩:=Yi (w:=w) (cap:=cap) (c:=c) (ty:=ty) hT dU dQ oO hz hq bR (ha.rd hm j hj) ha.len hb rX
 have hc':aV≤9223372036854775807:=by
  by_cases hle:na+m≤cap
  · have h9:=aN.symm.trans (b7 hle)
    cases p with
    | none=>
     simp only [Result.andThen,Result.ok.injEq,Value.slice.injEq] at h9
     rw [h9.1.2.2]
     exact hcp
    | some a=>
     simp only at h9
     cases P5:(storeCells (a.add (na*es)) new).run P w with
     | ok u w9=>
      rw [P5] at h9
      simp only [Result.andThen,Result.ok.injEq,Value.slice.injEq] at h9
      rw [h9.1.2.2]
      exact hcp
     | halt u w9=>rw [P5] at h9; cases h9
  · have h9:=aN.symm.trans (gy Ta)
    simp only [Result.ok.injEq,Value.slice.injEq] at h9
    rw [h9.1.2.2]
    have aX:=Nat.mod_lt (w.tape w.drawn (.appendCap (na+m) cap e)) (show 0<2 ^ 63-(na+m) by omega)
    unfold Qa
    omega
 refine Vv ho hd rfl (fun a hf=>?_) trivial (h p' aV g' b' w' vE vF hc')
 simp only [execOp,resolve,List.map_toArray,Ka,List.map_nil,hf.eval hs,hf.eval hx,Sem.run_bind,Sem.run_pure,Result.andThen_ok,invoke,builtin,aN]
end
end Go.Cx
namespace Go.Cx
open Go
structure bV(es:cG Int)(ck:Nat)(K:Tj)(f:Int→Int):Prop where
 wf:WfG es ck
 val:∀ v,cE es v=if v∈K then some (.int .i64 (f v)) else none
section
variable {es:cG Int}{ck:Nat}{K:Tj}{f f':Int→Int}{v x:Int}
theorem bV.nil(f:Int→Int):bV [] 0 [] f:=⟨WfG.nil,by simp [cE]⟩
theorem bV.to(h:bV es ck K f)(he:∀ v∈K,f v=f' v):bV es ck K f':=⟨h.wf,fun v=>by
 rw [h.val]
 by_cases hv:v∈K
 · rw [LI hv,LI hv,he v hv]
 · rw [LH hv,LH hv]⟩
theorem bV.new(h:bV es ck K f)(hx:∀ u∈K,f u=f' u)(hv:f' v=x):bV (VS es ck v (.int .i64 x)) (vw es ck v) (K++[v]) f':=⟨h.wf.set _ _,fun u=>by
 rw [Y9,h.val]
 by_cases hu:u=v
 · subst hu; rw [LI rfl,LI Tc,hv]
 · rw [LH hu]
   by_cases hk:u∈K
   · rw [LI hk,LI (Lw _ hk),hx u hk]
   · rw [LH hk,LH (by simp [hk,hu])]⟩
theorem bV.has(h:bV es ck K f)(v:Int):(cE es v).isSome=decide (v∈K):=by
 rw [h.val]
 by_cases hv:v∈K <;> simp [hv]
theorem bV.get(h:bV es ck K f)(hv:v∈K):(cE es v).getD (.int .i64 0)=.int .i64 (f v):=by rw [h.val,LI hv]; rfl
theorem bV.jbt(h:bV es ck K f)(hv:v∉K):(cE es v).getD (.int .i64 0)=.int .i64 0:=by rw [h.val,LH hv]; rfl
theorem bV.set(h:bV es ck K f)(hv:v∈K)(hx:∀ u∈K,u≠v→f u=f' u)(hf:f' v=x):bV (VS es ck v (.int .i64 x)) (vw es ck v) K f':=⟨h.wf.set _ _,fun u=>by
 rw [Y9,h.val]
 by_cases hu:u=v
 · subst hu; rw [LI rfl,LI hv,hf]
 · rw [LH hu]
   by_cases hk:u∈K
   · rw [LI hk,LI hk,hx u hk hu]
   · rw [LH hk,LH hk]⟩
theorem bV.cks(h:bV es ck K f)(hv:v∈K):vw es ck v=ck:=by
 unfold vw
 rw [LI (by rw [h.has,LQ hv])]
def nS(x:Int×Value×Nat):Int×Unit×Nat:=(x.1,(),x.2.2)
theorem bV.pr(h:bV es ck K f)(hv:v∈K)(u:Value):(VS es ck v u).map nS=es.map nS:=by
 unfold VS
 rw [LI (by rw [h.has,LQ hv])]
 have:∀ es:cG Int,(Zk v u es).map nS=es.map nS:=by
  intro es
  induction es with
  | nil=>rfl
  | cons y r ih=>
   unfold Zk
   split
   · rename_i hy; simp [nS,hy]
   · simp [ih]
 exact this es
theorem bV.del(h:bV es ck K f)(v:Int):bV (Yp v es) ck (K.filter fun u=>decide (u≠v)) f:=⟨h.wf.del _,fun u=>by
 rw [yC h.wf.keys,h.val]
 by_cases hu:u=v
 · subst hu; simp
 · by_cases hk:u∈K <;> simp [hu,hk]⟩
theorem bV.getD(h:bV es ck K f)(v:Int):(cE es v).getD (.int .i64 0)=.int .i64 (if v∈K then f v else 0):=by
 by_cases hv:v∈K
 · rw [h.get hv,LI hv]
 · rw [h.jbt hv,LH hv]
theorem HT{l:List (Int×Unit×Nat)}{q:Int×Unit×Nat}(hk:(es.map (·.1)).Nodup)(h:uG (es.map nS) l)(hq:q∈es.map nS)(hn:q.2.2∉l.map (·.2.2)):q.1∉l.map (·.1):=fun hm=>by
 obtain ⟨y,hy,Bu⟩:=Ln.1 hm
 have y9:((es.map nS).map (·.1)).Nodup:=by rw [List.map_map]; exact hk
 have jbu:y=q:=by
  have hp:=List.pairwise_map.1 y9
  have h1:=h.sub hy
  obtain ⟨i,hi,rfl⟩:=LU h1
  obtain ⟨j,hj,rfl⟩:=LU hq
  rw [List.pairwise_iff_getElem] at hp
  rcases Nat.lt_trichotomy i j with aX | rfl | aX
  · exact absurd Bu (hp i j hi hj aX)
  · rfl
  · exact absurd Bu.symm (hp j i hj hi aX)
 subst jbu
 exact hn (Ln.2 ⟨y,hy,rfl⟩)
theorem HU{IT:cG Int}{l:List (Int×Unit×Nat)}(zb:IT.map nS=es.map nS)(hv:uG (es.map nS) l)(Ay:WfG es ck)(cI:∀ x∈IT,x.2.2∈l.map (·.2.2))(v:Int):v∈l.map (·.1)↔v∈es.map (·.1):=by
 have h1:((es.map nS).map (·.2.2)).Nodup:=by rw [List.map_map]; exact Ay.borns
 have h2:=hv.done h1 fun x hx=>by
  rw [← zb] at hx
  obtain ⟨y,hy,rfl⟩:=Ln.1 hx
  exact cI y hy
 rw [(h2.map (·.1)).mem_iff,List.map_map]
 rfl
theorem bV.keys(h:bV es ck K f)(v:Int):v∈es.map (·.1)↔v∈K:=by
 rw [← Ym,h.has,LO]
end
end Go.Cx
namespace Go.Pl
def dg(E:Tl)(K:Tj)(v:Int):Nat:=((ins E v).filter fun u=>decide (u∈K)).length
theorem Ox(E:Tl)(K:Tj)(v:Int):((dP (ins E v)).filter fun u=>decide (u∈K)).length=dg E K v:=((Q3 _).filter _).length_eq
theorem AH{E:Tl}(h:E.Nodup)(v:Int):(ins E v).Nodup:=by
 unfold ins
 rw [List.Nodup,List.pairwise_map]
 refine (List.Pairwise.filter _ h).imp_of_mem fun {a b} ha hb bO he=>bO ?_
 have h1:=(L5.1 ha).2
 have h2:=(L5.1 hb).2
 simp only [LO] at h1 h2
 exact Prod.ext he (h1.trans h2.symm)
theorem wT{E:Tl}(h:E.Nodup)(v:Int):(outs E v).Nodup:=by
 unfold outs
 rw [List.Nodup,List.pairwise_map]
 refine (List.Pairwise.filter _ h).imp_of_mem fun {a b} ha hb bO he=>bO ?_
 have h1:=(L5.1 ha).2
 have h2:=(L5.1 hb).2
 simp only [LO] at h1 h2
 exact Prod.ext (h1.trans h2.symm) he
theorem uL{v:Int}{K:Tj}(hv:v∈K):∀ {l:Tj},l.Nodup→(l.filter fun u=>decide (u∈K)).length=(l.filter fun u=>decide (u∈K.filter fun u=>decide (u≠v))).length+(if v∈l then 1 else 0)
 | [],_=>by simp
 | a::l,h=>by
  rw [List.nodup_cons] at h
  have ih:=uL hv h.2
  simp only [List.filter_cons,LR,L5,LO] at ih ⊢
  by_cases ha:a=v
  · subst ha
    simp only [hv,ne_eq,not_true_eq_false,and_false,decide_false,decide_true,if_true,true_or,Li] at ih ⊢
    rw [LH h.1] at ih
    simpa using ih
  · have hva:v≠a:=fun e=>ha e.symm
    by_cases hk:a∈K
    · simp only [hk,ha,hva,ne_eq,not_false_eq_true,and_self,decide_true,if_true,Li,false_or] at ih ⊢
      omega
    · simp only [hk,hva,false_and,decide_false,false_or]
      simpa using ih
theorem Eo{E:Tl}(hE:E.Nodup){K:Tj}{v:Int}(hv:v∈K)(w:Int):dg E K w=dg E (K.filter fun u=>decide (u≠v)) w+(if w∈outs E v then 1 else 0):=by
 unfold dg
 rw [uL hv (AH hE w)]
 congr 1
 by_cases h:(v,w)∈E
 · rw [LI (Zc.2 h),LI (X4.2 h)]
 · rw [LH fun hh=>h (Zc.1 hh),LH fun hh=>h (X4.1 hh)]
def ea(ss:Tj)(k:Nat):List Int:=(ids k).filter fun v=>decide (v∉ss)
structure Kahn(E:Tl)(K0 out K:Tj):Prop where
 part:∀ v,v∈K0↔v∈out∨v∈K
 disj:∀ v∈out,v∉K
 nd:out.Nodup
 topo:∀ (i:Nat) v,out[i]?=some v→∀ u∈ins E v,u∈K0→u∈out.take i
structure KahnR(E:Tl)(K r:Tj)(f:Int→Int):Prop where
 mem:∀ v,v∈r↔v∈K∧f v=0
 lt:r.Pairwise (·<·)
theorem Kahn.start(E:Tl)(K0:Tj):Kahn E K0 [] K0:=⟨Tc,Tc,Tc,Tc⟩
theorem Kahn.pop{E:Tl}{K0 out K:Tj}{v:Int}(h:Kahn E K0 out K)(hv:v∈K)(hd:dg E K v=0):Kahn E K0 (out++[v]) (K.filter fun u=>decide (u≠v)):=by
 have cz:∀ u∈ins E v,u∉K:=fun u hu hk=>by
  have:=Ll.1 hd
  rw [List.filter_eq_nil_iff] at this
  exact this u hu (by simpa using hk)
 refine ⟨fun u=>?_,fun u hu=>?_,?_,fun i u hu=>?_⟩
 · rw [h.part]
   simp only [Ls,Lf,L5,LO]
   by_cases e:u=v
   · subst e; simp [hv]
   · simp [e]
 · simp only [L5,LO,not_and,Classical.not_not]
   rcases Ls.1 hu with hu | hu
   · exact fun hk=>absurd hk (h.disj u hu)
   · exact fun _=>Lf.1 hu
 · rw [Kg]
   refine ⟨h.nd,Tc,fun a ha b hb e=>?_⟩
   rw [Lf.1 hb] at e
   exact h.disj a ha (e▸hv)
 · rcases L7 i out.length with hi | hi
   · rw [L3 hi] at hu
     rw [List.take_append_of_le_length Ta]
     exact h.topo i u hu
   · rw [L6 hi] at hu
     obtain ⟨h0,hx⟩:=Le.1 hu
     have nM:i=out.length:=by simp at h0; omega
     subst nM
     have huv:v=u:=by simpa using hx
     subst huv
     rw [Kj]
     exact fun w hw hk=>((h.part w).1 hk).resolve_right (cz w hw)
theorem Oy{r:Tj}(h:r.Pairwise (·<·)){w:Int}(hw:w∉r):(r.take (r.countP (·<w))++w::r.drop (r.countP (·<w))).Pairwise (·<·):=by
 have key:∀ {r:Tj},r.Pairwise (·<·)→w∉r→(∀ a∈r.take (r.countP (·<w)),a<w)∧∀ a∈r.drop (r.countP (·<w)),w<a:=by
  intro r
  induction r with
  | nil=>intro _ _; simp
  | cons x r ih=>
   intro h hn
   rw [List.pairwise_cons] at h
   simp only [LR,not_or] at hn
   by_cases hx:x<w
   · rw [List.countP_cons_of_pos (by simpa using hx),List.take_succ_cons,List.drop_succ_cons]
     obtain ⟨h1,h2⟩:=ih h.2 hn.2
     refine ⟨fun a ha=>?_,h2⟩
     rcases LR.1 ha with rfl | ha
     · exact hx
     · exact h1 a ha
   · have h0:(x::r).countP (·<w)=0:=by
      rw [List.countP_eq_zero]
      intro a ha
      rcases LR.1 ha with rfl | ha
      · simpa using hx
      · have:=h.1 a ha
        simp only [LO]; omega
     rw [h0]
     refine ⟨Tc,fun a ha=>?_⟩
     rcases LR.1 ha with rfl | ha
     · omega
     · have:=h.1 a ha; omega
 obtain ⟨h1,h2⟩:=key h hw
 rw [List.pairwise_append]
 refine ⟨h.sublist (List.take_sublist ..),?_,fun a ha b hb=>?_⟩
 · rw [List.pairwise_cons]
   exact ⟨h2,h.sublist (List.drop_sublist ..)⟩
 · rcases LR.1 hb with rfl | hb
   · exact h1 a ha
   · have:=h1 a ha; have:=h2 b hb; omega
theorem Oz{r:Tj}{w v:Int}{i:Nat}:v∈r.take i++w::r.drop i↔v=w∨v∈r:=by
 rw [Ls,LR]
 have h:v∈r↔v∈r.take i∨v∈r.drop i:=by rw [← Ls,Ke]
 rw [h]
 constructor
 · rintro (h | h | h) <;> simp [h]
 · rintro (h | h | h) <;> simp [h]
theorem KahnR.put{E:Tl}{K r:Tj}{f f':Int→Int}{w:Int}(h:KahnR E K r f)(hw:w∈K)(hf:f w≠0)(HO:f' w=0)(he:∀ u∈K,u≠w→f u=f' u):w∉r∧KahnR E K (r.take (r.countP (·<w))++w::r.drop (r.countP (·<w))) f':=by
 have hn:w∉r:=fun hr=>hf ((h.mem w).1 hr).2
 refine ⟨hn,fun v=>?_,Oy h.lt hn⟩
 rw [Oz,h.mem]
 by_cases e:v=w
 · subst e; simp [hw,HO]
 · simp only [e,false_or]
   exact ⟨fun ⟨a,b⟩=>⟨a,by rw [← he v a e]; exact b⟩,fun ⟨a,b⟩=>⟨a,by rw [he v a e]; exact b⟩⟩
theorem KahnR.to{E:Tl}{K K' r:Tj}{f f':Int→Int}(h:KahnR E K r f)(he:∀ v,(v∈K∧f v=0)↔(v∈K'∧f' v=0)):KahnR E K' r f':=⟨fun v=>by rw [h.mem,he],h.lt⟩
theorem KahnR.le{E:Tl}{K r:Tj}{f:Int→Int}(h:KahnR E K r f):r.length≤K.length:=VE (h.lt.imp fun h e=>by omega) fun x hx=>((h.mem x).1 hx).1
theorem KahnR.tail{E:Tl}{K r:Tj}{f:Int→Int}{v:Int}(h:KahnR E K (v::r) f):KahnR E (K.filter fun u=>decide (u≠v)) r f:=by
 have hp:=List.pairwise_cons.1 h.lt
 refine ⟨fun u=>?_,hp.2⟩
 have:=h.mem u
 simp only [LR,L5,LO] at this ⊢
 constructor
 · intro hu
   have h1:=hp.1 u hu
   exact ⟨⟨(this.1 (.inr hu)).1,Ta⟩,(this.1 (.inr hu)).2⟩
 · rintro ⟨⟨h1,h2⟩,h3⟩
   exact (this.2 ⟨h1,h3⟩).resolve_left h2
theorem OA{E:Tl}{K:Tj}{v:Int}(h:dg E K v≠0):∃ u∈ins E v,u∈K:=by
 have h1:((ins E v).filter fun u=>decide (u∈K))≠[]:=fun e=>h (by unfold dg; rw [e]; rfl)
 obtain ⟨u,hu⟩:=List.exists_mem_of_ne_nil _ h1
 obtain ⟨h2,h3⟩:=L5.1 hu
 exact ⟨u,h2,by simpa using h3⟩
theorem uM(ss:Tj)(k:Nat):ea ss (k+1)=ea ss k++if (k:Int)∉ss then [(k:Int)] else []:=by
 unfold ea ids
 rw [List.range_succ,Lx,List.filter_append]
 congr 1
 by_cases h:(k:Int)∈ss <;> simp [h]
theorem Vh{ss:Tj}{k:Nat}{v:Int}:v∈ea ss k↔0≤v∧v<k∧v∉ss:=by
 unfold ea ids
 simp only [L5,Ln,List.mem_range,LO]
 constructor
 · rintro ⟨⟨i,hi,rfl⟩,h⟩; exact ⟨Ta,Ta,h⟩
 · rintro ⟨h1,h2,h3⟩; exact ⟨⟨v.toNat,Ta,Ta⟩,h3⟩
def KM(E:Tl)(K:Tj)(k:Nat):List Int:=(ids k).filter fun v=>decide (v∈K)&&decide (dg E K v=0)
theorem uN(E:Tl)(K:Tj)(k:Nat):KM E K (k+1)=KM E K k++if (k:Int)∈K∧dg E K k=0 then [(k:Int)] else []:=by
 unfold KM ids
 rw [List.range_succ,Lx,List.filter_append]
 congr 1
 by_cases h:(k:Int)∈K <;> by_cases h2:dg E K k=0 <;> simp [h,h2]
theorem Ep:∀ n,(ids n).Pairwise (·<·):=fun n=>by
 unfold ids
 rw [List.pairwise_map]
 exact List.pairwise_lt_range.imp fun h=>by omega
theorem OB{E:Tl}{K:Tj}{n:Nat}(hK:∀ v∈K,0≤v∧v<n):KahnR E K (KM E K n) fun v=>(dg E K v:Int):=by
 refine ⟨fun v=>?_,(Ep n).filter _⟩
 unfold KM ids
 simp only [L5,Ln,List.mem_range,LJ,LO]
 constructor
 · rintro ⟨_,h1,h2⟩; exact ⟨h1,Ta⟩
 · rintro ⟨h1,h2⟩
   have:=hK v h1
   exact ⟨⟨v.toNat,Ta,Ta⟩,h1,Ta⟩
end Go.Pl
namespace Go.Cx
theorem Er{l:Tj}(h:l.Nodup){k:Nat}{z:Int}(hi:(Pl.dP l)[k]?=some z):z∉(Pl.dP l).take k:=fun hm=>by
 have hn:(Pl.dP l).Nodup:=(Pl.Q3 l).nodup_iff.2 h
 obtain ⟨hk,rfl⟩:=Le.1 hi
 obtain ⟨j,hj,he⟩:=LU hm
 rw [Lg] at hj
 rw [List.getElem_take] at he
 have:=(List.pairwise_iff_getElem.1 hn) j k Ta hk Ta
 exact this he
end Go.Cx
namespace Go.Pl
def wo(E:Tl)(ss:Tj):List (Int×Int):=E.filter fun e=>decide (e.1∉ss)&&decide (e.2∉ss)
theorem Vp{E:Tl}{ss:Tj}{e:Int×Int}:e∈wo E ss↔e∈E∧e.1∉ss∧e.2∉ss:=by
 unfold wo
 simp [L5]
theorem Path.sub{E E':Tl}(h:∀ e,e∈E→e∈E'){a b:Int}(hp:Path E a b):Path E' a b:=by
 induction hp with
 | one he=>exact .one (h _ he)
 | more _ he ih=>exact .more ih (h _ he)
theorem Path.trans{E:Tl}{a b c:Int}(h:Path E a b)(g:Path E b c):Path E a c:=by
 induction g with
 | one he=>exact .more h he
 | more _ he ih=>exact .more ih he
theorem Kahn.FH{n:Nat}{E:Tl}{ss out K:Tj}(h:Kahn E (ea ss n) out K)(hE:∀ e∈E,0≤e.1∧e.1<n∧0≤e.2∧e.2<n){v:Int}(hp:Path (wo E ss) v v):v∈K:=by
 have key:∀ {a b:Int},Path (wo E ss) a b→∀ i,out[i]?=some b→a∈out.take i:=by
  intro a b nY
  induction nY with
  | one he=>
   intro i hi
   obtain ⟨h1,h2,h3⟩:=Vp.1 he
   have hb:=hE _ h1
   exact h.topo i _ hi a (Zc.2 h1) (Vh.2 ⟨hb.1,hb.2.1,h2⟩)
  | more Wc he ih=>
   intro i hi
   obtain ⟨h1,h2,h3⟩:=Vp.1 he
   have hb:=hE _ h1
   have h4:=h.topo i _ hi _ (Zc.2 h1) (Vh.2 ⟨hb.1,hb.2.1,h2⟩)
   obtain ⟨j,hj,Bi⟩:=LU h4
   rw [Lg] at hj
   rw [List.getElem_take] at Bi
   have h5:=ih j (by rw [← Bi]; exact La Ta)
   have Oq:out.take j=(out.take i).take j:=by rw [List.take_take]; congr 1; omega
   rw [Oq] at h5
   exact List.mem_of_mem_take h5
 have hv:v∈ea ss n:=by
  have:∃ u,(u,v)∈wo E ss:=by cases hp with | one he=>exact ⟨_,he⟩ | more _ he=>exact ⟨_,he⟩
  obtain ⟨u,hu⟩:=this
  obtain ⟨h1,h2,h3⟩:=Vp.1 hu
  have:=hE _ h1
  exact Vh.2 ⟨this.2.2.1,this.2.2.2,h3⟩
 rcases (h.part v).1 hv with ho | hk
 · exfalso
   obtain ⟨i,hi,hie⟩:=LU ho
   have h6:=key hp i (by rw [← hie]; exact La hi)
   obtain ⟨j,hj,Bi⟩:=LU h6
   rw [Lg] at hj
   rw [List.getElem_take] at Bi
   have:=(List.pairwise_iff_getElem.1 h.nd) j i Ta hi Ta
   exact this (Bi.trans hie.symm)
 · exact hk
end Go.Pl
namespace Go.Pl
theorem XK{n:Nat}{v:Int}:v∈ids n↔0≤v∧v<n:=by
 have:=Vh (ss:=[]) (k:=n) (v:=v)
 unfold ea at this
 simpa using this
end Go.Pl
namespace Go.Pl
theorem OC{W:Tl}{K:Tj}(hc:∀ v,¬ Path W v v)(hK:∀ v∈K,∃ u∈K,(u,v)∈W):K=[]:=by
 cases K with
 | nil=>rfl
 | cons x0 K0=>
  exfalso
  have key:∀ m:Nat,∃ x c,(∀ y∈x::c,y∈x0::K0)∧(x::c).length=m+1∧(x::c).Pairwise (Path W):=by
   intro m
   induction m with
   | zero=>exact ⟨x0,[],Tc,rfl,Tc⟩
   | succ m ih=>
    obtain ⟨x,c,h1,h2,h3⟩:=ih
    obtain ⟨u,hu,he⟩:=hK x (h1 x (Lo ..))
    refine ⟨u,x::c,fun y hy=>?_,by rw [Li,h2],?_⟩
    · rcases LR.1 hy with rfl | hy
      · exact hu
      · exact h1 y hy
    · rw [List.pairwise_cons]
      refine ⟨fun y hy=>?_,h3⟩
      rcases LR.1 hy with rfl | hy
      · exact .one he
      · exact Path.trans (.one he) ((List.pairwise_cons.1 h3).1 y hy)
  obtain ⟨x,c,h1,h2,h3⟩:=key (x0::K0).length
  have hn:(x::c).Nodup:=h3.imp fun {a b} h (e:a=b)=>by subst e; exact hc _ h
  have:=VE hn h1
  omega
end Go.Pl
namespace Go.Proofs.YtaehgpeenaomcaaGreat
open Go Go.Shelf Go.RowKit Go.Lib Go.Sort Go.Proofs
def Wl:Ren:=⟨fun x=>match x with | 189=>247 | 125=>103 | 257=>278 | 128=>138 | 129=>139 | 294=>293 | 295=>294 | 296=>295 | 297=>296 | 298=>297 | 299=>298 | 216=>207 | 300=>299 | 301=>300 | 328=>307 | 329=>166 | 330=>167 | 331=>308 | 332=>309 | 215=>104 | 343=>311 | n=>n,fun x=>match x with | 28=>134 | 46=>151 | 51=>120 | 53=>55 | 183=>208 | 182=>207 | 131=>158 | 218=>251 | 222=>255 | 228=>311 | 229=>78 | n=>n,fun x=>x⟩
theorem jbv:Lays.n189 Tryz.prog Wl:={ mixed:=by kernel_rfl,f125:=Tryz.func103,f128:=Tryz.func138,f129:=Tryz.func139,f189:=Tryz.func247,f215:=Tryz.func104,f216:=Tryz.func207,f257:=Tryz.func278,f294:=Tryz.func293,f295:=Tryz.func294,f296:=Tryz.func295,f297:=Tryz.func296,f298:=Tryz.func297,f299:=Tryz.func298,f300:=Tryz.func299,f301:=Tryz.func300,f328:=Tryz.func307,f329:=Tryz.func166,f330:=Tryz.func167,f331:=Tryz.func308,f332:=Tryz.func309,f343:=Tryz.func311,t0:=Tryz.underlying0,a0:=Tryz.isAgg0,z0:=Tryz.sizeOf0,v0:=Tryz.zeroValue0,t3:=Tryz.underlying3,a3:=Tryz.isAgg3,z3:=Tryz.sizeOf3,v3:=Tryz.zeroValue3,t4:=Tryz.underlying4,a4:=Tryz.isAgg4,z4:=Tryz.sizeOf4,v4:=Tryz.zeroValue4,t5:=Tryz.underlying5,a5:=Tryz.isAgg5,z5:=Tryz.sizeOf5,v5:=Tryz.zeroValue5,t9:=Tryz.underlying9,a9:=Tryz.isAgg9,z9:=Tryz.sizeOf9,v9:=Tryz.zeroValue9,t28:=Tryz.underlying134,a28:=Tryz.isAgg134,z28:=Tryz.sizeOf134,v28:=Tryz.zeroValue134,t46:=Tryz.underlying151,a46:=Tryz.isAgg151,z46:=Tryz.sizeOf151,v46:=Tryz.zeroValue151,t51:=Tryz.underlying120,a51:=Tryz.isAgg120,z51:=Tryz.sizeOf120,v51:=Tryz.zeroValue120,t53:=Tryz.underlying55,a53:=Tryz.isAgg55,z53:=Tryz.sizeOf55,v53:=Tryz.zeroValue55,t131:=Tryz.underlying158,a131:=Tryz.isAgg158,z131:=Tryz.sizeOf158,v131:=Tryz.zeroValue158,t182:=Tryz.underlying207,a182:=Tryz.isAgg207,z182:=Tryz.sizeOf207,v182:=Tryz.zeroValue207,t183:=Tryz.underlying208,a183:=Tryz.isAgg208,z183:=Tryz.sizeOf208,v183:=Tryz.zeroValue208,t218:=Tryz.underlying251,a218:=Tryz.isAgg251,z218:=Tryz.sizeOf251,v218:=Tryz.zeroValue251,t222:=Tryz.underlying255,a222:=Tryz.isAgg255,z222:=Tryz.sizeOf255,v222:=Tryz.zeroValue255,t228:=Tryz.underlying311,a228:=Tryz.isAgg311,z228:=Tryz.sizeOf311,v228:=Tryz.zeroValue311,t229:=Tryz.underlying78,a229:=Tryz.isAgg78,z229:=Tryz.sizeOf78,v229:=Tryz.zeroValue78 }
def Wm:Ren:=⟨fun x=>match x with | 6=>194 | 15=>103 | 14=>240 | 28=>138 | 29=>139 | 20=>267 | 21=>268 | 22=>269 | 23=>270 | 24=>271 | 25=>272 | 26=>273 | 27=>274 | 46=>289 | 47=>166 | 48=>167 | 49=>290 | 50=>291 | 57=>306 | n=>n,fun x=>match x with | 22=>295 | 24=>299 | 25=>301 | 39=>151 | 53=>120 | 46=>208 | 45=>207 | 50=>158 | 66=>251 | 70=>255 | 76=>311 | 77=>78 | n=>n,fun x=>x⟩
theorem jbw:SlLaysF0.n6 Tryz.prog Wm:={ mixed:=by kernel_rfl,f6:=⟨Tryz.f194.name,Tb,Tryz.func194⟩,f14:=⟨Tryz.f240.name,Tb,Tryz.func240⟩,f15:=Tryz.func103,f20:=⟨Tryz.f267.name,Tb,Tryz.func267⟩,f21:=⟨Tryz.f268.name,Tb,Tryz.func268⟩,f22:=⟨Tryz.f269.name,Tb,Tryz.func269⟩,f23:=⟨Tryz.f270.name,Tb,Tryz.func270⟩,f24:=⟨Tryz.f271.name,Tb,Tryz.func271⟩,f25:=⟨Tryz.f272.name,Tb,Tryz.func272⟩,f26:=⟨Tryz.f273.name,Tb,Tryz.func273⟩,f27:=⟨Tryz.f274.name,Tb,Tryz.func274⟩,f28:=Tryz.func138,f29:=Tryz.func139,f46:=⟨Tryz.f289.name,Tb,Tryz.func289⟩,f47:=Tryz.func166,f48:=Tryz.func167,f49:=⟨Tryz.f290.name,Tb,Tryz.func290⟩,f50:=⟨Tryz.f291.name,Tb,Tryz.func291⟩,f57:=⟨Tryz.f306.name,Tb,Tryz.func306⟩,t0:=Tryz.underlying0,a0:=Tryz.isAgg0,z0:=Tryz.sizeOf0,v0:=Tryz.zeroValue0,t3:=Tryz.underlying3,a3:=Tryz.isAgg3,z3:=Tryz.sizeOf3,v3:=Tryz.zeroValue3,t4:=Tryz.underlying4,a4:=Tryz.isAgg4,z4:=Tryz.sizeOf4,v4:=Tryz.zeroValue4,t5:=Tryz.underlying5,a5:=Tryz.isAgg5,z5:=Tryz.sizeOf5,v5:=Tryz.zeroValue5,t9:=Tryz.underlying9,a9:=Tryz.isAgg9,z9:=Tryz.sizeOf9,v9:=Tryz.zeroValue9,t22:=Tryz.underlying295,a22:=Tryz.isAgg295,z22:=Tryz.sizeOf295,v22:=Tryz.zeroValue295,t25:=Tryz.underlying301,a25:=Tryz.isAgg301,z25:=Tryz.sizeOf301,v25:=Tryz.zeroValue301,t39:=Tryz.underlying151,a39:=Tryz.isAgg151,z39:=Tryz.sizeOf151,v39:=Tryz.zeroValue151,t45:=Tryz.underlying207,a45:=Tryz.isAgg207,z45:=Tryz.sizeOf207,v45:=Tryz.zeroValue207,t46:=Tryz.underlying208,a46:=Tryz.isAgg208,z46:=Tryz.sizeOf208,v46:=Tryz.zeroValue208,t50:=Tryz.underlying158,a50:=Tryz.isAgg158,z50:=Tryz.sizeOf158,v50:=Tryz.zeroValue158,t53:=Tryz.underlying120,a53:=Tryz.isAgg120,z53:=Tryz.sizeOf120,v53:=Tryz.zeroValue120,t55:=Tryz.underlying55,a55:=Tryz.isAgg55,z55:=Tryz.sizeOf55,v55:=Tryz.zeroValue55,t66:=Tryz.underlying251,a66:=Tryz.isAgg251,z66:=Tryz.sizeOf251,v66:=Tryz.zeroValue251,t70:=Tryz.underlying255,a70:=Tryz.isAgg255,z70:=Tryz.sizeOf255,v70:=Tryz.zeroValue255,t76:=Tryz.underlying311,a76:=Tryz.isAgg311,z76:=Tryz.sizeOf311,v76:=Tryz.zeroValue311,t77:=Tryz.underlying78,a77:=Tryz.isAgg78,z77:=Tryz.sizeOf78,v77:=Tryz.zeroValue78 }
def Wn:Ren:=⟨fun x=>match x with | 6=>69 | 15=>103 | 14=>102 | 28=>138 | 29=>139 | 20=>130 | 21=>131 | 22=>132 | 23=>133 | 24=>134 | 25=>135 | 26=>136 | 27=>137 | 46=>165 | 47=>166 | 48=>167 | 49=>168 | 50=>169 | 57=>211 | n=>n,fun x=>match x with | 22=>24 | 24=>60 | 25=>143 | 39=>151 | 53=>120 | 46=>208 | 45=>207 | 50=>158 | 66=>251 | 70=>255 | 76=>311 | 77=>78 | n=>n,fun x=>x⟩
theorem jbx:SlLaysF0.n6 Tryz.prog Wn:={ mixed:=by kernel_rfl,f6:=⟨Tryz.f69.name,Tb,Tryz.func69⟩,f14:=⟨Tryz.f102.name,Tb,Tryz.func102⟩,f15:=Tryz.func103,f20:=⟨Tryz.f130.name,Tb,Tryz.func130⟩,f21:=⟨Tryz.f131.name,Tb,Tryz.func131⟩,f22:=⟨Tryz.f132.name,Tb,Tryz.func132⟩,f23:=⟨Tryz.f133.name,Tb,Tryz.func133⟩,f24:=⟨Tryz.f134.name,Tb,Tryz.func134⟩,f25:=⟨Tryz.f135.name,Tb,Tryz.func135⟩,f26:=⟨Tryz.f136.name,Tb,Tryz.func136⟩,f27:=⟨Tryz.f137.name,Tb,Tryz.func137⟩,f28:=Tryz.func138,f29:=Tryz.func139,f46:=⟨Tryz.f165.name,Tb,Tryz.func165⟩,f47:=Tryz.func166,f48:=Tryz.func167,f49:=⟨Tryz.f168.name,Tb,Tryz.func168⟩,f50:=⟨Tryz.f169.name,Tb,Tryz.func169⟩,f57:=⟨Tryz.f211.name,Tb,Tryz.func211⟩,t0:=Tryz.underlying0,a0:=Tryz.isAgg0,z0:=Tryz.sizeOf0,v0:=Tryz.zeroValue0,t3:=Tryz.underlying3,a3:=Tryz.isAgg3,z3:=Tryz.sizeOf3,v3:=Tryz.zeroValue3,t4:=Tryz.underlying4,a4:=Tryz.isAgg4,z4:=Tryz.sizeOf4,v4:=Tryz.zeroValue4,t5:=Tryz.underlying5,a5:=Tryz.isAgg5,z5:=Tryz.sizeOf5,v5:=Tryz.zeroValue5,t9:=Tryz.underlying9,a9:=Tryz.isAgg9,z9:=Tryz.sizeOf9,v9:=Tryz.zeroValue9,t22:=Tryz.underlying24,a22:=Tryz.isAgg24,z22:=Tryz.sizeOf24,v22:=Tryz.zeroValue24,t25:=Tryz.underlying143,a25:=Tryz.isAgg143,z25:=Tryz.sizeOf143,v25:=Tryz.zeroValue143,t39:=Tryz.underlying151,a39:=Tryz.isAgg151,z39:=Tryz.sizeOf151,v39:=Tryz.zeroValue151,t45:=Tryz.underlying207,a45:=Tryz.isAgg207,z45:=Tryz.sizeOf207,v45:=Tryz.zeroValue207,t46:=Tryz.underlying208,a46:=Tryz.isAgg208,z46:=Tryz.sizeOf208,v46:=Tryz.zeroValue208,t50:=Tryz.underlying158,a50:=Tryz.isAgg158,z50:=Tryz.sizeOf158,v50:=Tryz.zeroValue158,t53:=Tryz.underlying120,a53:=Tryz.isAgg120,z53:=Tryz.sizeOf120,v53:=Tryz.zeroValue120,t55:=Tryz.underlying55,a55:=Tryz.isAgg55,z55:=Tryz.sizeOf55,v55:=Tryz.zeroValue55,t66:=Tryz.underlying251,a66:=Tryz.isAgg251,z66:=Tryz.sizeOf251,v66:=Tryz.zeroValue251,t70:=Tryz.underlying255,a70:=Tryz.isAgg255,z70:=Tryz.sizeOf255,v70:=Tryz.zeroValue255,t76:=Tryz.underlying311,a76:=Tryz.isAgg311,z76:=Tryz.sizeOf311,v76:=Tryz.zeroValue311,t77:=Tryz.underlying78,a77:=Tryz.isAgg78,z77:=Tryz.sizeOf78,v77:=Tryz.zeroValue78 }
def Wo:Ren:=⟨fun x=>match x with | 5=>71 | 7=>104 | n=>n,fun x=>match x with | 22=>3 | n=>n,fun x=>x⟩
theorem Wp:SlLaysC2.n5 Tryz.prog Wo:={ mixed:=by kernel_rfl,f5:=⟨Tryz.f71.name,Tb,Tryz.func71⟩,f7:=⟨Tryz.f104.name,Tb,Tryz.func104⟩,t3:=Tryz.underlying3,a3:=Tryz.isAgg3,z3:=Tryz.sizeOf3,v3:=Tryz.zeroValue3,t4:=Tryz.underlying4,a4:=Tryz.isAgg4,z4:=Tryz.sizeOf4,v4:=Tryz.zeroValue4,t22:=Tryz.underlying3,a22:=Tryz.isAgg3,z22:=Tryz.sizeOf3,v22:=Tryz.zeroValue3 }
def Wq:Ren:=⟨fun x=>match x with | 107=>100 | 108=>129 | n=>n,fun x=>match x with | 28=>134 | n=>n,fun x=>x⟩
theorem jby:Lays.n107 Tryz.prog Wq:={ mixed:=by kernel_rfl,f107:=Tryz.func100,f108:=Tryz.func129,t0:=Tryz.underlying0,a0:=Tryz.isAgg0,z0:=Tryz.sizeOf0,v0:=Tryz.zeroValue0,t3:=Tryz.underlying3,a3:=Tryz.isAgg3,z3:=Tryz.sizeOf3,v3:=Tryz.zeroValue3,t4:=Tryz.underlying4,a4:=Tryz.isAgg4,z4:=Tryz.sizeOf4,v4:=Tryz.zeroValue4,t28:=Tryz.underlying134,a28:=Tryz.isAgg134,z28:=Tryz.sizeOf134,v28:=Tryz.zeroValue134 }
def Ws:Ren:=⟨fun x=>match x with | 25=>163 | 31=>207 | 32=>208 | 37=>104 | n=>n,fun x=>match x with | 22=>134 | 40=>151 | n=>n,fun x=>x⟩
theorem jbz:Lays2.n25 Tryz.prog Ws:={ mixed:=by kernel_rfl,f25:=Tryz.func163,f31:=Tryz.func207,f32:=Tryz.func208,f37:=Tryz.func104,t0:=Tryz.underlying0,a0:=Tryz.isAgg0,z0:=Tryz.sizeOf0,v0:=Tryz.zeroValue0,t3:=Tryz.underlying3,a3:=Tryz.isAgg3,z3:=Tryz.sizeOf3,v3:=Tryz.zeroValue3,t4:=Tryz.underlying4,a4:=Tryz.isAgg4,z4:=Tryz.sizeOf4,v4:=Tryz.zeroValue4,t22:=Tryz.underlying134,a22:=Tryz.isAgg134,z22:=Tryz.sizeOf134,v22:=Tryz.zeroValue134,t40:=Tryz.underlying151,a40:=Tryz.isAgg151,z40:=Tryz.sizeOf151,v40:=Tryz.zeroValue151 }
def Wt:Ren:=⟨fun x=>match x with | 21=>164 | 27=>209 | 28=>210 | 35=>249 | 39=>279 | n=>n,fun x=>match x with | 22=>134 | n=>n,fun x=>x⟩
theorem jbA:Lays2.n21 Tryz.prog Wt:={ mixed:=by kernel_rfl,f21:=Tryz.func164,f27:=Tryz.func209,f28:=Tryz.func210,f35:=Tryz.func249,f39:=Tryz.func279,t0:=Tryz.underlying0,a0:=Tryz.isAgg0,z0:=Tryz.sizeOf0,v0:=Tryz.zeroValue0,t3:=Tryz.underlying3,a3:=Tryz.isAgg3,z3:=Tryz.sizeOf3,v3:=Tryz.zeroValue3,t4:=Tryz.underlying4,a4:=Tryz.isAgg4,z4:=Tryz.sizeOf4,v4:=Tryz.zeroValue4,t22:=Tryz.underlying134,a22:=Tryz.isAgg134,z22:=Tryz.sizeOf134,v22:=Tryz.zeroValue134,i3:=by kernel_rfl }
end Go.Proofs.YtaehgpeenaomcaaGreat
namespace Go.Proofs.YtaehgpeenaomcaaGreat
open Go Go.Cx
open Go.Sort Go.Shelf Go.Proofs Go.RowKit
instance:Inhabited aa:=⟨⟨0,0,0,0,⟨none,0,[]⟩⟩⟩
theorem jbB(x:Int×Int×Int):∀ v∈ia x,v.oneCell'=true:=fun v hv=>by
 simp only [ia,LR,Kd,or_false] at hv
 rcases hv with rfl | rfl | rfl <;> rfl
theorem Wu(x:aa):∀ v∈JM x,v.oneCell'=true:=fun v hv=>by
 simp only [JM,LR,Kd,or_false] at hv
 rcases hv with rfl | rfl | rfl | rfl | rfl <;> rfl
theorem OD(p:Tg)(g cap:Nat)(b:ag)(xs:Tj)(w0:World)(ha:Acc 3 1 p xs.length cap (xs.flatMap Cx.encI) g b)(hr:b.real=true→w0.heap[g]?=some b.Jd)(hl:xs.length<4611686018427387904):C Tryz.prog 247 [.slice p xs.length cap] w0 fun v w'=>v=.tuple ⟨[]⟩∧∃ b',Acc 3 1 p xs.length cap ((xs.mergeSort fun x y=>decide (x≤y)).flatMap Cx.encI) g b'∧Az w0 w' g b b':=We jbv p g cap b _ xs w0 ha hr hl
theorem OE(x y:Int×Int×Int)(W:World):Calls Tryz.prog 195 #[.agg #[.int .i64 x.1,.int .i64 x.2.1,.int .i64 x.2.2],.agg #[.int .i64 y.1,.int .i64 y.2.1,.int .i64 y.2.2]] W fun e w'=>e=.returned (.int .i64 (Lib.compareInt ((fun z:Int×Int×Int=>z.1) x) ((fun z:Int×Int×Int=>z.1) y)))∧∃ q Wb,w'=grow (W.drewN q) Wb:=by
 have cM:=fun W'=>AnyG.cmp_Compare_int Wp ((fun z:Int×Int×Int=>z.1) x) ((fun z:Int×Int×Int=>z.1) y) W'
 change ∀ W',Calls Tryz.prog 71 _ _ _ at cM
 generalize Lib.compareInt ((fun z:Int×Int×Int=>z.1) x) ((fun z:Int×Int×Int=>z.1) y)=r at cM ⊢
 go_enter Tryz.func195,Tryz.ntmps195
 go_wp2_with (go_at_call 71; refine (cM _).mono ?_; rintro e w' ⟨rfl,rfl⟩)
 go_ret
 exact ⟨rfl,0,_,by rw [alloc_eq_grow,alloc_eq_grow,grow_grow]; rfl⟩
theorem OF(x y:aa)(W:World):Calls Tryz.prog 70 #[.agg #[.int .i64 x.k,.int .i64 x.to,.int .i64 x.fr,.int .i64 x.ln,.slice x.d.p x.d.bs.length x.d.cap],.agg #[.int .i64 y.k,.int .i64 y.to,.int .i64 y.fr,.int .i64 y.ln,.slice y.d.p y.d.bs.length y.d.cap]] W fun e w'=>e=.returned (.int .i64 (Lib.compareInt ((fun z:aa=>z.to) x) ((fun z:aa=>z.to) y)))∧∃ q Wb,w'=grow (W.drewN q) Wb:=by
 have cM:=fun W'=>AnyG.cmp_Compare_int Wp ((fun z:aa=>z.to) x) ((fun z:aa=>z.to) y) W'
 change ∀ W',Calls Tryz.prog 71 _ _ _ at cM
 generalize Lib.compareInt ((fun z:aa=>z.to) x) ((fun z:aa=>z.to) y)=r at cM ⊢
 go_enter Tryz.func70,Tryz.ntmps70
 go_wp2_with (go_at_call 71; refine (cM _).mono ?_; rintro e w' ⟨rfl,rfl⟩)
 go_ret
 exact ⟨rfl,0,_,by rw [alloc_eq_grow,alloc_eq_grow,grow_grow]; rfl⟩
theorem OG(p:Tg)(g cap:Nat)(b:ag)(xs:List (Int×Int×Int))(w0:World)(ha:Acc 299 3 p xs.length cap (xs.flatMap ia) g b)(hr:b.real=true→w0.heap[g]?=some b.Jd)(hl:xs.length<4611686018427387904):C Tryz.prog 194 [.slice p xs.length cap,.func (.func 195) #[] ⟨[]⟩] w0 fun v w'=>v=.tuple ⟨[]⟩∧∃ (ys:List (Int×Int×Int)) (b':ag),ys.Perm xs∧(∀ (i j:Nat) x y,i<j→ys[i]?=some x→ys[j]?=some y→x.1≤y.1)∧Acc 299 3 p ys.length cap (ys.flatMap ia) g b'∧Az w0 w' g b b':=
 KH jbw 3 Tryz.isAgg299 Tryz.sizeOf299 ia Tb Q8 jbB (fun z=>z.1) 195 (enters_of Tryz.func195 Te rfl) OE p g cap b _ xs w0 ha hr hl
theorem OH(p:Tg)(g cap:Nat)(b:ag)(xs:List aa)(w0:World)(ha:Acc 60 5 p xs.length cap (xs.flatMap JM) g b)(hr:b.real=true→w0.heap[g]?=some b.Jd)(hl:xs.length<4611686018427387904):C Tryz.prog 69 [.slice p xs.length cap,.func (.func 70) #[] ⟨[]⟩] w0 fun v w'=>v=.tuple ⟨[]⟩∧∃ (ys:List aa) (b':ag),ys.Perm xs∧(∀ (i j:Nat) x y,i<j→ys[i]?=some x→ys[j]?=some y→x.to≤y.to)∧Acc 60 5 p ys.length cap (ys.flatMap JM) g b'∧Az w0 w' g b b':=
 KH jbx 5 Tryz.isAgg60 Tryz.sizeOf60 JM Tb Jf Wu (fun z=>z.to) 70 (enters_of Tryz.func70 Te rfl) OF p g cap b _ xs w0 ha hr hl
end Go.Proofs.YtaehgpeenaomcaaGreat
namespace Go.Proofs.YtaehgpeenaomcaaGreat
open Go Go.Cx
end Go.Proofs.YtaehgpeenaomcaaGreat
namespace Go.Pl
open Go Go.Cx Go.Proofs.YtaehgpeenaomcaaGreat
def eV(es:Tl):List (Int×Int×Int):=es.mapIdx fun i e=>(e.1,e.2,(i:Int))
end Go.Pl
namespace Go.Proofs.YtaehgpeenaomcaaGreat
open Go Go.Cx
theorem AI{es:Tl}{k:Nat}{e:Int×Int}(h:es[k]?=some e):Pl.eV (es.take (k+1))=Pl.eV (es.take k)++[(e.1,e.2,(k:Int))]:=by
 have hk:=(Le.1 h).1
 rw [LC,h]
 unfold Pl.eV
 show List.mapIdx _ (es.take k++[e])=_
 rw [List.mapIdx_append]
 simp only [List.mapIdx_cons,List.mapIdx_nil,Lg,LV]
 rw [Nat.min_eq_left (Nat.le_of_lt hk)]
theorem Yb(es:Tl):(Pl.eV es).length=es.length:=by simp [Pl.eV]
end Go.Proofs.YtaehgpeenaomcaaGreat
namespace Go.Pl
open Go Go.Cx Go.Proofs.YtaehgpeenaomcaaGreat
def dj3(x y:Int×Int×Int):Prop:=Pl.Xy x≤y.1∨Pl.Xy y≤x.1
def KN(x y:Int×Int):Prop:=x.1+x.2≤y.1∨y.1+y.2≤x.1
def AJ(x:Int×Int):Prop:=0≤x.1∧0<x.2∧x.1+x.2≤4611686018427387903
end Go.Pl
namespace Go.Proofs.YtaehgpeenaomcaaGreat
open Go Go.Cx
theorem Es{es:Tl}{x:Int×Int×Int}(h:x∈Pl.eV es):∃ i:Nat,es[i]?=some (x.1,x.2.1)∧x.2.2=i:=by
 obtain ⟨i,hi⟩:=List.mem_iff_getElem?.1 h
 unfold Pl.eV at hi
 rw [List.getElem?_mapIdx] at hi
 obtain ⟨e,he,rfl⟩:=Option.map_eq_some_iff.1 hi
 exact ⟨i,he,rfl⟩
theorem HV{es:Tl}(h:es.Pairwise Pl.KN):(Pl.eV es).Pairwise Pl.dj3:=by
 rw [List.pairwise_iff_getElem] at h ⊢
 intro i j hi hj eZ
 rw [Yb] at hi hj
 have:=h i j hi hj eZ
 simp only [Pl.eV,List.getElem_mapIdx,Pl.dj3,Pl.Xy]
 exact this
end Go.Proofs.YtaehgpeenaomcaaGreat
namespace Go.Pl
open Go Go.Cx Go.Proofs.YtaehgpeenaomcaaGreat
def AK(es:List (Int×Int×Int)):Prop:=∀ (i j:Nat) x y,i<j→es[i]?=some x→es[j]?=some y→Pl.Xy x≤y.1
end Go.Pl
namespace Go.Proofs.YtaehgpeenaomcaaGreat
open Go Go.Cx
theorem OI{es:Tl}{ys:List (Int×Int×Int)}(FI:∀ e∈es,Pl.AJ e)(hd:es.Pairwise Pl.KN)(hp:ys.Perm (Pl.eV es))(hs:∀ (i j:Nat) x y,i<j→ys[i]?=some x→ys[j]?=some y→x.1≤y.1):Pl.AK ys∧(∀ x∈ys,Pl.ZB x∧0<x.2.1):=by
 have aq:∀ x∈ys,Pl.ZB x∧0<x.2.1:=fun x hx=>by
  obtain ⟨i,hi,_⟩:=Es (hp.subset hx)
  have:=FI _ (Ld hi)
  simp only [Pl.AJ,Pl.ZB] at *
  omega
 refine ⟨fun i j x y eZ hx hy=>?_,aq⟩
 have PR:ys.Pairwise Pl.dj3:=hp.symm.pairwise (HV hd) (fun h=>h.symm)
 rw [List.pairwise_iff_getElem] at PR
 obtain ⟨ki,dY⟩:=Le.1 hx
 obtain ⟨dW,On⟩:=Le.1 hy
 have h1:=PR i j ki dW eZ
 rw [dY,On] at h1
 have h2:=hs i j x y eZ hx hy
 have h3:=(aq y (Ld hy)).2
 unfold Pl.dj3 Pl.Xy at *
 omega
theorem OJ{ys:List (Int×Int×Int)}(h:Pl.AK ys)(aq:∀ x∈ys,Pl.ZB x∧0<x.2.1):Pl.U6 ys:=fun i j x y eZ hx hy=>by
 rcases Nat.lt_or_eq_of_le eZ with h1 | rfl
 · have:=h i j x y h1 hx hy
   have:=(aq y (Ld hy)).2
   unfold Pl.Xy at *
   omega
 · rw [hx] at hy; cases hy; exact Int.le_refl _
theorem Wv(q:Tg)(cq:Nat)(es:Tl)(w0:World)(hq:Rd w0 q (es.flatMap Q9))(hl:es.length≤1000000)(FI:∀ e∈es,Pl.AJ e)(hd:es.Pairwise Pl.KN):C Tryz.prog 155 [.slice q es.length cq] w0 fun v w'=>∃ (mi:Nat) (p:Tg) (n c g:Nat) (b:ag) (ys:List (Int×Int×Int)),v=.pointer (some ⟨mi,0,none⟩)∧Acc 299 3 p n c (ys.flatMap ia) g b∧ys.Perm (Pl.eV es)∧Pl.AK ys∧(∀ x∈ys,Pl.ZB x∧0<x.2.1)∧Mem w0 w' No [(mi,.row 297 [.slice p n c]),(g,b)]:=by
 refine aH Tryz.func155 fun κ _ Je Jc hm=>?_
 refine au 7 ?_
 refine Ja rfl rfl (Qe (cs:=[_]) z297.h ft297.h rfl rfl rfl rfl rfl)<|bT hm fun mi w hm=>?_
 replace hm:=hm.JP
 have ay:=Acc.nil 299 3 none 0
 refine au 12 ?_
 refine Jg (ι:=Nat×Ow) rfl (ks:=[3,9,10]) Tn (fun x=>[(11,.int .i64 (x.1:Int))]) (fun x w=>Mem w0 w No [(x.2.g,x.2.b),(mi,.row 297 [.slice x.2.p x.2.n x.2.cap])]∧Acc 299 3 x.2.p x.2.n x.2.cap ((Pl.eV (es.take x.1)).flatMap ia) x.2.g x.2.b∧x.1≤es.length) (fun x=>es.length-x.1) (0,⟨none,0,0,0,.gap⟩) (⟨(hm.pick [0,1] rfl),ay,LL _⟩) Tm (fun x w hM=>?_)
 obtain ⟨k,bU,nm,aB,cQ,cL⟩:=x
 obtain ⟨hm,ay,hk⟩:=hM
 simp only at hm ay hk ⊢
 obtain rfl:=ay.QB Q8 Tb
 have ya:(Pl.eV (es.take k)).length≤es.length:=by rw [Yb,Lg]; omega
 refine au 6 ?_
 refine cd (fun ai=>?_) fun ai=>?_
 ·
  simp only [dT] at ai
  obtain ⟨e,hi⟩:∃ y_,es[k]?=some y_:=⟨_,La Ta⟩
  obtain ⟨qb,qo,rfl⟩:=hq.bS QM Tb hi
  have hoe:=FI e (Ld hi)
  unfold Pl.AJ at hoe
  refine au 8 ?_
  refine Ja rfl rfl (JU rfl ag32.h (hq.Jj hm.to).nt QM hi)<|aT hm fun m1 w hm=>?_
  refine au 1 ?_
  refine st hm 0 fun w hm=>?_
  refine au 6 ?_
  refine cA rfl rfl rfl (C.as (v:=.bool true) (Qw e.1 e.2 _ (by simp only [Pl.aA]; omega) (by simp only [Pl.aA]; omega)) (LM Value.bool ((Pl.Xk).2 Ta))) hm fun w hm=>au 4 ?_
  refine Ja rfl rfl (JA (c:=false) (V3 rfl rfl) (LN Ta))<|au 6 ?_
  refine JS (.pure 0 (.pure 1 (.pure 2 (.pure 3 (.pure 4 (.pure 5 (.pure 6 (.pure 7 (.act 8 (.cut (.act 9 (.pure 10 (.pure 11 (.act 12 .done)))))))))))))) (fun j=>(j=cQ∧cL.real=true)) fP Te hm fun w hw ar hh=>?_
  have hm:=ar
  refine au 4 ?_
  refine Ja rfl rfl (Jh rfl sc295.h (ar.nd 2 rfl (ar.ta 2 1 rfl rfl rfl)) rfl)<|Ja rfl rfl (Jm (s:=2) (vs:=[_,_]) rfl ag32.h (ar.nd 0 rfl (ar.ta 0 1 rfl rfl rfl)) rfl)<|au 1 ?_
  refine Ja rfl rfl (Qe (cs:=[_,_,_]) z299.h ft299.h rfl rfl rfl rfl rfl)<|Jb (l:=[_,_,_]) rfl rfl sl295.h z299.h rfl rfl rfl rfl rfl rfl rfl hm hh fun m2 w bo hm hh=>au 1 ?_
  refine Jy rfl rfl rfl rfl rfl rfl sl295.h sl295.h z299.h rfl rfl (Rd.JL (hm.get (k:=0) rfl)) rfl ay hm 2 rfl Ta Ta fun bU aB cQ cL w ay hm=>au 2 ?_
  refine st hm 3 fun w hm=>?_
  refine au 7 ?_
  exact next (k+1,⟨bU,_,aB,cQ,cL⟩) Td ⟨(hm.pick [2,3] rfl),ay.to (by simp only; rw [AI hi,Lh]; rfl),Td⟩ ⟨nx k,Tm⟩
 ·
  simp only [dF] at ai
  have b8:k=es.length:=by omega
  rw [b8,Lv] at ay hm ⊢
  refine au 11 ?_
  refine cT rfl rfl rfl (OG bU cQ aB cL (Pl.eV es) _ ay (fun h9=>hm.nV (k:=0) rfl h9) (by rw [Yb]; omega)) fun v w hR=>?_
  obtain ⟨rfl,ys,b2,hyp,ew,AL,oq⟩:=hR
  replace hm:=hm.Ed 0 rfl oq
  obtain ⟨ou,rE⟩:=OI FI hd hyp ew
  have fz:=hyp.length_eq
  rw [Yb] at fz
  have ay:=AL
  rw [Yb,← fz] at hm ⊢
  refine au 14 ?_
  refine Jg (ι:=Nat) rfl (ks:=[3,46]) Tn (fun k=>[(47,.int .i64 (k:Int))]) (fun k w=>Mem w0 w No [(cQ,b2),(mi,.row 297 [.slice bU ys.length aB])]∧k≤ys.length) (fun k=>ys.length-k) 0 (⟨(hm.pick [0,1] rfl),LL _⟩) Tm (fun k w hM=>?_)
  obtain ⟨hm,hk⟩:=hM
  refine au 6 ?_
  refine cd (fun aD=>?_) fun aD=>?_
  ·
   simp only [dT] at aD
   refine au 11 ?_
   obtain ⟨x1,nL⟩:∃ y_,ys[k]?=some y_:=⟨_,La Ta⟩
   obtain ⟨qb,qo,rfl⟩:=(ay.rd hm 0 rfl).bS Q8 Tb nL
   rcases Nat.eq_zero_or_pos k with FD | FD
   ·
    refine dw [0,3,6,9,12,15,18,21,24,27,30,33,36,39,42,45,48,51,54,57,60,64,66,69] hm fun w hw ar hh hm=>?_
    refine au 1 ?_
    refine Ja rfl rfl (JA (c:=false) (XE rfl rfl) (LN Ta))<|au 32 ?_
    exact next (k+1) Ta ⟨(hm.pick [0,1] rfl),Ta⟩ ⟨nx k,Tm⟩
   ·
    obtain ⟨x0,fN⟩:∃ y_,ys[((k:Int)-1).toNat]?=some y_:=⟨_,La Ta⟩
    have Us:=ou _ k x0 x1 Ta fN nL
    have ho9:=(rE x0 (Ld fN)).1
    unfold Pl.ZB at ho9
    unfold Pl.Xy at Us
    refine dw [0,3,6,9,12,15,18,21,24,27,30,33,36,39,42,45,48,51,54,57,60,64,66,69] hm fun w hw ar hh hm=>?_
    refine au 1 ?_
    refine Ja rfl rfl (JA (c:=true) (XE rfl rfl) (LQ Ta))<|au 9 ?_
    refine Ja rfl rfl (Yr rfl sc3.h (ay.rd ar 0 rfl).nd Q8 nL rfl)<|au 8 ?_
    refine Ja rfl rfl (vU (vs:=[_,_]) rfl ag32.h (ay.rd ar 0 rfl).nd Q8 fN rfl rfl)<|cB rfl rfl rfl (QC x0.1 x0.2.1 _ (by simp only [Pl.aA]; omega)) hm hh fun w hm hh=>Ja rfl rfl (JA (c:=false) (VO rfl rfl) (LN Ta))<|au 11 ?_
    exact next (k+1) Ta ⟨(hm.pick [0,1] rfl),Ta⟩ ⟨nx k,Tm⟩
  ·
   refine au 13 ?_
   exact ⟨mi,bU,_,aB,cQ,b2,ys,rfl,ay,hyp,ou,rE,(hm.pick [1,0] rfl)⟩
end Go.Proofs.YtaehgpeenaomcaaGreat
