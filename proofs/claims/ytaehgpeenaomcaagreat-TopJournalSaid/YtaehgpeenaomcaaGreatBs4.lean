/- The program logic of these proofs and the plain laws of the layers below, part 4. No condition. -/
import Derived.Laws.Externs
import Derived.Test.YtaehgpeenaomcaaGreatBs3
namespace Go.Ev
set_option linter.unusedVariables false
set_option linter.unusedSimpArgs false
set_option linter.constructorNameAsVariable false
open Go
theorem eachOc_some {f : Oc → R} : ∀ {os : List Oc} {L : List Rs}, eachOc f os = some L → ∀ o ∈ os, ∃ L', f o = some L' ∧ Sb L' L
  | [], L, h => fun o ho => by cases ho
  | [e], L, h => fun o ho => by
    rw [List.mem_singleton] at ho
    subst ho
    exact ⟨L, h, Sb.refl _⟩
  | e :: e2 :: r, L, h => fun o ho => by
    have h : both (f e) (eachOc f (e2 :: r)) = some L := h
    obtain ⟨A, B, hA, hB, s1, s2⟩ := both_some h
    rcases List.mem_cons.1 ho with rfl | ho
    · exact ⟨A, hA, s1⟩
    · obtain ⟨L', h1, h2⟩ := eachOc_some hB o ho
      exact ⟨L', h1, h2.trans s2⟩
theorem anyOc_some {r : Rs} : ∀ {l : List Oc}, anyOc r l = true → ∃ o ∈ l, isOc o r = true
  | [], h => by cases h
  | o :: l, h => by
    replace h : ite_ (isOc o r) true (anyOc r l) = true := h
    rw [ite_eq] at h
    split at h
    · exact ⟨o, List.mem_cons_self .., by assumption⟩
    · obtain ⟨o', h1, h2⟩ := anyOc_some h
      exact ⟨o', List.mem_cons_of_mem _ h1, h2⟩
def geB (E : Env) (o : Oc) : Prop := ∀ p ∈ o.bs, E.ro ≤ p.1
theorem pickB_ge {E : Env} {H : T Bk} : ∀ {is : List Nat}, ∀ p ∈ pickB E H is, E.ro ≤ p.1 ∧ T.get H p.1 = some p.2
  | [], p, hp => by cases hp
  | i :: is, p, hp => by
    replace hp : p ∈ ite_ (Nat.ble E.ro i) (optR (pickB E H is) (fun b => (i, b) :: pickB E H is) (T.get H i)) (pickB E H is) := hp
    rw [ite_eq] at hp
    split at hp
    · rename_i hle
      rw [bleN, decide_eq_true_eq] at hle
      rw [optR_eq] at hp
      cases hb : T.get H i with
      | none => rw [hb] at hp; exact pickB_ge p hp
      | some b =>
        rw [hb] at hp
        rcases List.mem_cons.1 hp with rfl | hp
        · exact ⟨hle, hb⟩
        · exact pickB_ge p hp
    · exact pickB_ge p hp
theorem ocOf_ge {E : Env} {args : List V} {r : Rs} {o : Oc} (h : ocOf E args r = some o) : geB E o := by
  cases r with
  | pan v H n => cases h
  | ret v H n => cases h; exact fun p hp => (pickB_ge p hp).1
theorem ocs_some {E : Env} {args : List V} : ∀ {l : List Rs} {acc os : List Oc}, ocs E args l acc = some os → (∀ o ∈ acc, o ∈ os) ∧ (∀ r ∈ l, ∃ o ∈ os, isOc o r = true) ∧ ((∀ o ∈ acc, geB E o) → ∀ o ∈ os, geB E o)
  | [], acc, os, h => by cases h; exact ⟨fun _ h => h, fun r hr => (by cases hr), fun h => h⟩
  | r :: l, acc, os, h => by
    replace h : ite_ (anyOc r acc) (ocs E args l acc) (bnd (ocOf E args r) fun o => ite_ (isOc o r) (ocs E args l (o :: acc)) none) = some os := h
    rw [ite_eq] at h
    split at h
    · rename_i ha
      obtain ⟨h1, h2, h3⟩ := ocs_some h
      refine ⟨h1, fun r' hr' => ?_, h3⟩
      rcases List.mem_cons.1 hr' with rfl | hr'
      · obtain ⟨o, g1, g2⟩ := anyOc_some ha
        exact ⟨o, h1 o g1, g2⟩
      · exact h2 r' hr'
    · obtain ⟨o, ho, h⟩ := bnd_some.1 h
      obtain ⟨hi, h⟩ := ite_some.1 h
      obtain ⟨h1, h2, h3⟩ := ocs_some h
      refine ⟨fun o' ho' => h1 o' (List.mem_cons_of_mem _ ho'), fun r' hr' => ?_, fun hg => h3 fun o' ho' => ?_⟩
      · rcases List.mem_cons.1 hr' with rfl | hr'
        · exact ⟨o, h1 o (List.mem_cons_self ..), hi⟩
        · exact h2 r' hr'
      · rcases List.mem_cons.1 ho' with rfl | ho'
        · exact ocOf_ge ho
        · exact hg o' ho'
section
variable {P : Program} {E : Env} {ok : OkL} {okc : OkC} {z : Int} {ρ : Rho} {X : Xz} {w0 w : World} {H : T Bk} {n ro : Nat} {L : List Rs} {ih : Tk → R}
theorem Gl.over (hg : Gl z X w0 ρ) (hm : Mr ok ro z ρ X w0 H n w) {pre : List (Nat × Bk)} (hp : ∀ i b, atL pre i = some b → T.get H i = some b ∧ ro ≤ i) : Gl z (Xo ρ X H pre) w ρ := by
  refine ⟨hg.1, fun ⟨i, b, B, N, g1, g2⟩ => ?_, hg.at hm⟩
  rcases hm.fr i b _ (hp i b g1).1 g2 (hp i b g1).2 with g | g
  · exact hg.2.1 g
  · obtain ⟨e, fz, h0⟩ := hg.2.2
    have := (Array.getElem?_eq_some_iff.1 h0).1
    simp only at g
    omega
theorem isOc_spec {o : Oc} {r : Rs} (h : isOc o r = true) : ∃ H n, r = .ret o.v H n ∧ n ≤ o.n ∧ hasPre H o.bs = true := by
  cases r with
  | pan v H n => cases h
  | ret v H n =>
    replace h : ite_ (Nat.ble n o.n) (ite_ (eqW v o.v) (hasPre H o.bs) false) false = true := h
    rw [ite_eq] at h
    split at h
    · rename_i hn
      rw [bleN, decide_eq_true_eq] at hn
      rw [ite_eq] at h
      split at h
      · rename_i he
        exact ⟨H, n, by rw [eqW_spec he], hn, h⟩
      · cases h
    · cases h
/-- an outcome of the part is one of the whole -/
theorem back_ok (hro : E.ro = ro) (hm : Mr ok ro z ρ X w0 H n w) {pre : List (Nat × Bk)} (hp : ∀ i b, atL pre i = some b → T.get H i = some b ∧ ro ≤ i) {o : Oc} {kc : Rs → R} {r : Rs} {ρ2 : Rho} {e : Ending} {w2 : World} (hle : Rle ρ ρ2) (hr : RsOk ok ro z (Xo ρ X H pre) w ρ2 r e w2) (ho : isOc o r = true) (hge : geB E o)
    {L' : List Rs} (hk : le_ n o.n (kc (.ret o.v (ofL o.bs (dropP pre H)) o.n)) = some L') (hs : Sb L' L) : CallP ok ro z X w0 ρ kc L e w2 := by
  obtain ⟨H2, n2, rfl, hn2, hpre⟩ := isOc_spec ho
  rw [le_some] at hk
  cases hr with
  | ret hv h2 =>
    exact ⟨_, ρ2, L', hk.2, hs, hle, .ret hv (hm.back hp hle h2 (fun i b hb => ⟨hasPre_spec hpre _ (atL_mem hb), hro ▸ hge _ (atL_mem hb)⟩) hk.1 hn2)⟩
theorem mergeF_ok (hE : EnvOk P E z) (hro : E.ro = ro) (hF : FnOk P E okc) (hC : OkCs okc) (hI : Snd P ok okc ro z ih) {f : Nat} {args : List V} {vs : List Value} {kc : Rs → R} (hv : Vs ρ z args vs) (hm : Mr ok ro z ρ X w0 H n w) (hg : Gl z X w0 ρ) (h : mergeF E ih f args H n kc = some L) :
    Cx.isGo P f = true ∧ Calls P f ⟨vs⟩ w (CallP ok ro z X w0 ρ kc L) := by
  unfold mergeF at h
  obtain ⟨pre, hpre⟩ : ∃ pre, pre = pickB E H (reachI H 100000 (idsL args) []) := ⟨_, rfl⟩
  replace h : (bnd (bodyF E ih f args (ofL pre .nil) n fun r => some [r]) fun l => bnd (ocs E args l []) fun os => eachOc (fun o => le_ n o.n (kc (.ret o.v (ofL o.bs (dropP pre H)) o.n))) os) = some L := by rw [hpre]; exact h
  have hp : ∀ i b, atL pre i = some b → T.get H i = some b ∧ ro ≤ i := fun i b hb => by
    have := pickB_ge (i, b) (hpre ▸ atL_mem hb)
    exact ⟨this.2, hro ▸ this.1⟩
  obtain ⟨l, hl, h⟩ := bnd_some.1 h
  obtain ⟨os, hos, h⟩ := bnd_some.1 h
  obtain ⟨_, o2, o3⟩ := ocs_some hos
  obtain ⟨hgo, hcall⟩ := bodyF_ok hE hro hF hC hI hv (hm.over fun i b hb => (hp i b hb).1) (hg.over hm hp) hl
  refine ⟨hgo, Calls.mono hcall fun e w2 he => ?_⟩
  obtain ⟨r, ρ2, L1, h1, h2, h3, h4⟩ := he
  cases h1
  obtain ⟨o, ho, hoc⟩ := o2 r (h2 r (List.mem_cons_self ..))
  obtain ⟨L', k1, k2⟩ := eachOc_some h o ho
  exact back_ok hro hm hp h3 h4 hoc (o3 (fun o ho => by cases ho) o ho) k1 k2
end
end Go.Ev

namespace Go.Ev
set_option linter.unusedVariables false
set_option linter.unusedSimpArgs false
set_option linter.constructorNameAsVariable false
open Go
/-- an entry of the table is true -/
structure EnOk (P : Program) (E : Env) (ok : OkL) (z : Int) (f : Nat) (e : En) : Prop where
  run : ∀ (ρ : Rho) (X : Xz) (w0 w : World) (vs : List Value), Vs ρ z e.args vs → Mr ok E.ro z ρ X w0 (ofL e.pre .nil) e.n w → Gl z X w0 ρ →
    Cx.isGo P f = true ∧ Calls P f ⟨vs⟩ w fun en w' => ∃ r ρ', Rle ρ ρ' ∧ RsOk ok E.ro z X w0 ρ' r en w' ∧ isOc e.oc r = true
  pre : ∀ p ∈ e.pre, E.ro ≤ p.1
  bs : geB E e.oc
def TbOk (P : Program) (E : Env) (ok : OkL) (z : Int) (tb : T (List En)) : Prop := ∀ f l e, T.get tb f = some l → e ∈ l → EnOk P E ok z f e
theorem findEn_some {args : List V} {H : T Bk} {n : Nat} : ∀ {l : List En} {e : En}, findEn args H n l = some e → e ∈ l ∧ e.n = n ∧ e.args = args ∧ hasPre H e.pre = true
  | [], e, h => by cases h
  | x :: l, e, h => by
    replace h : ite_ (andB (Nat.beq x.n n) (andB (eqWs x.args args) (hasPre H x.pre))) (some x) (findEn args H n l) = some e := h
    rw [ite_eq] at h
    split at h
    · rename_i hc
      cases h
      simp only [andB_eq, beqN, Bool.and_eq_true, decide_eq_true_eq] at hc
      exact ⟨List.mem_cons_self .., hc.1, eqWs_spec hc.2.1, hc.2.2⟩
    · obtain ⟨h1, h2⟩ := findEn_some h
      exact ⟨List.mem_cons_of_mem _ h1, h2⟩
section
variable {P : Program} {E : Env} {ok : OkL} {okc : OkC} {z : Int} {ρ : Rho} {X : Xz} {w0 w : World} {H : T Bk} {n ro : Nat} {L : List Rs} {ih : Tk → R} {tb : T (List En)}
theorem bodyM_ok (hE : EnvOk P E z) (hro : E.ro = ro) (hF : FnOk P E okc) (hC : OkCs okc) (hI : Snd P ok okc ro z ih) {f : Nat} {args : List V} {vs : List Value} {kc : Rs → R} (hv : Vs ρ z args vs) (hm : Mr ok ro z ρ X w0 H n w) (hg : Gl z X w0 ρ) (h : bodyM E ih f args H n kc = some L) :
    Cx.isGo P f = true ∧ Calls P f ⟨vs⟩ w (CallP ok ro z X w0 ρ kc L) := by
  unfold bodyM at h
  rw [optR_eq] at h
  cases hq : T.get E.mg f with
  | none => rw [hq] at h; exact bodyF_ok hE hro hF hC hI hv hm hg h
  | some u => rw [hq] at h; exact mergeF_ok hE hro hF hC hI hv hm hg h
theorem doCall_ok (hE : EnvOk P E z) (hro : E.ro = ro) (hF : FnOk P E okc) (hC : OkCs okc) (hT : TbOk P E ok z tb) (hI : Snd P ok okc ro z ih) {f : Nat} {args : List V} {vs : List Value} {kc : Rs → R} (hv : Vs ρ z args vs) (hm : Mr ok ro z ρ X w0 H n w) (hg : Gl z X w0 ρ) (h : doCall E tb ih f args H n kc = some L) :
    Cx.isGo P f = true ∧ Calls P f ⟨vs⟩ w (CallP ok ro z X w0 ρ kc L) := by
  unfold doCall at h
  rw [optR_eq] at h
  cases hq : T.get tb f with
  | none => rw [hq] at h; exact bodyM_ok hE hro hF hC hI hv hm hg h
  | some l =>
    rw [hq] at h
    simp only [optR_eq] at h
    cases he : findEn args H n l with
    | none => rw [he] at h; exact bodyM_ok hE hro hF hC hI hv hm hg h
    | some e =>
      rw [he] at h
      obtain ⟨e1, e2, e3, e4⟩ := findEn_some he
      have hK := hT f l e hq e1
      have hp : ∀ i b, atL e.pre i = some b → T.get H i = some b ∧ ro ≤ i := fun i b hb => ⟨hasPre_spec e4 _ (atL_mem hb), hro ▸ hK.pre _ (atL_mem hb)⟩
      subst e2 e3 hro
      obtain ⟨hgo, hcall⟩ := hK.run ρ (Xo ρ X H e.pre) w w vs hv (hm.over fun i b hb => (hp i b hb).1) (hg.over hm hp)
      refine ⟨hgo, Calls.mono hcall fun en w2 hh => ?_⟩
      obtain ⟨r, ρ2, h3, h4, h5⟩ := hh
      exact back_ok rfl hm hp h3 h4 h5 hK.bs h (Sb.refl _)
/-- the walk is sound, whatever its fuel -/
theorem ev_snd (hE : EnvOk P E z) (hX : ExtOk P E) {nm : String} (hV : IvOk P E nm) (hro : E.ro = ro) (hF : FnOk P E okc) (hC : OkCs okc) (hR : OkRg P E ok okc nm) (hT : TbOk P E ok z tb) : ∀ fuel, Snd P ok okc ro z (ev E tb fuel)
  | 0 => ⟨fun f args H n kc L ρ X w0 w vs h => (by cases h), fun c ct st k L ρ X w0 w a nt r h => (by cases h), fun c ct st k L ρ X w0 w a nt r h => (by cases h)⟩
  | fuel + 1 => by
    have hI := ev_snd hE hX hV hro hF hC hR hT fuel
    exact ⟨fun f args H n kc L ρ X w0 w vs h hv hm hg => doCall_ok hE hro hF hC hT hI hv hm hg h,
      fun c ct st k L ρ X w0 w a nt r h hc hst hr => evCode_snd hE hX hV hro hC hR hI c ct st k L ρ X w0 w a nt r h hc hst hr,
      fun c ct st k L ρ X w0 w a nt r h hc hst hr => loop_snd (E := E) hI hC h hc hst hr⟩
end
end Go.Ev

namespace Go.Ev
set_option linter.unusedVariables false
set_option linter.unusedSimpArgs false
set_option linter.constructorNameAsVariable false
open Go
def okOpB (nt : Nat) (nm : String) (o : Oper) : Bool := (match o.dst with | some d => Nat.blt d nt | none => true) && (match o.op with | .call ⟨.invoke _ m, _, _⟩ => decide (m = nm) | _ => true)
theorem okOpB_spec {nt : Nat} {nm : String} {o : Oper} (h : okOpB nt nm o = true) : OkOper nt nm o := by
  unfold okOpB at h
  rw [Bool.and_eq_true] at h
  refine ⟨fun d hd => ?_, fun q m as ts e => ?_⟩
  · have := h.1; rw [hd] at this; simpa using this
  · have := h.2; rw [e] at this; simpa using this
/-- code, checked -/
noncomputable def okcB (pl : T (T (List Sg))) (nm : String) (f nt : Nat) : Code → Bool
  | .region id ops dr => ops.toList.all (okOpB nt nm) && (!dr || (match T.get pl f with | none => true | some tp => match T.get tp id with | none => true | some sgs => okSgs ops sgs [] []))
  | .seq a b => okcB pl nm f nt a && okcB pl nm f nt b
  | .cond _ a b => okcB pl nm f nt a && okcB pl nm f nt b
  | .block _ b => okcB pl nm f nt b
  | .loop b => okcB pl nm f nt b
  | .scope b => okcB pl nm f nt b
  | .rangeFunc _ ps a b => okcB pl nm f nt a && okcB pl nm f nt b && ps.toList.all (fun p => Nat.blt p nt)
  | _ => true
def okcP (E : Env) (nm : String) : OkC := fun f nt c => okcB E.pl nm f nt c = true
def oklP (E : Env) (nm : String) : OkL := fun f nt asg body ps => okcP E nm f nt asg ∧ okcP E nm f nt body ∧ ∀ p ∈ ps, p < nt
theorem okcP_cs (E : Env) (nm : String) : OkCs (okcP E nm) where
  seq h := by simpa [okcP, okcB] using h
  cond h := by simpa [okcP, okcB] using h
  block h := h
  loop h := h
  scope h := h
theorem okcP_rg {P : Program} (E : Env) (nm : String) (hmo : P.follows .mixedOrders = true) : OkRg P E (oklP E nm) (okcP E nm) nm where
  ops h o ho := by
    have h : (_ && _) = true := h
    rw [Bool.and_eq_true, List.all_eq_true] at h
    exact okOpB_spec (h.1 o ho)
  pl {f nt id ops} h tp sgs h1 h2 := by
    have h : (_ && (!true || (match T.get E.pl f with | none => true | some tp => match T.get tp id with | none => true | some sgs => okSgs ops sgs [] []))) = true := h
    rw [Bool.and_eq_true] at h
    have h := h.2
    rw [h1] at h
    simpa [h2] using h
  rf {f nt g ps asg body} h := by
    have h : (okcB E.pl nm f nt asg && okcB E.pl nm f nt body && ps.toList.all (fun p => Nat.blt p nt)) = true := h
    rw [Bool.and_eq_true, Bool.and_eq_true, List.all_eq_true] at h
    exact ⟨h.1.1, h.1.2, fun p hp => by simpa using h.2 p hp⟩
  lp f nt asg body ps h := h
  mo := hmo
end Go.Ev

namespace Go.Ev
set_option linter.unusedVariables false
set_option linter.unusedSimpArgs false
set_option linter.constructorNameAsVariable false
open Go
noncomputable section
def allOc (o : Oc) (l : List Rs) : Bool := List.rec (motive := fun _ => Bool) true (fun r _ ih => ite_ (isOc o r) ih false) l
/-- a call's reckoning comes to nothing but this outcome -/
def enB (E : Env) (tb : T (List En)) (fuel f : Nat) (e : En) : Bool := optR false (fun l => allOc e.oc l) (ev E tb fuel (.call f e.args (ofL e.pre .nil) e.n fun r => some [r]))
def geL (ro : Nat) (l : List (Nat × Bk)) : Bool := List.rec (motive := fun _ => Bool) true (fun p _ ih => ite_ (Nat.ble ro p.1) ih false) l
end
theorem allOc_spec {o : Oc} : ∀ {l : List Rs}, allOc o l = true → ∀ r ∈ l, isOc o r = true
  | [], h, r, hr => by cases hr
  | x :: l, h, r, hr => by
    replace h : ite_ (isOc o x) (allOc o l) false = true := h
    rw [ite_eq] at h
    split at h
    · rcases List.mem_cons.1 hr with rfl | hr
      · assumption
      · exact allOc_spec h r hr
    · cases h
theorem geL_spec {ro : Nat} : ∀ {l : List (Nat × Bk)}, geL ro l = true → ∀ p ∈ l, ro ≤ p.1
  | [], h, p, hp => by cases hp
  | x :: l, h, p, hp => by
    replace h : ite_ (Nat.ble ro x.1) (geL ro l) false = true := h
    rw [ite_eq] at h
    split at h
    · rename_i hx
      rcases List.mem_cons.1 hp with rfl | hp
      · rw [bleN, decide_eq_true_eq] at hx; exact hx
      · exact geL_spec h p hp
    · cases h
section
variable {P : Program} {E : Env} {ok : OkL} {okc : OkC} {z : Int} {ρ : Rho} {X : Xz} {w0 w : World} {H : T Bk} {n : Nat} {tb : T (List En)}
/-- a call, reckoned -/
theorem call_ok {l : List Rs} {fuel f : Nat} {args : List V} {vs : List Value} (hI : Snd P ok okc E.ro z (ev E tb fuel)) (h : ev E tb fuel (.call f args H n fun r => some [r]) = some l) (hv : Vs ρ z args vs) (hm : Mr ok E.ro z ρ X w0 H n w) (hg : Gl z X w0 ρ) :
    Cx.isGo P f = true ∧ Calls P f ⟨vs⟩ w fun e w' => ∃ r ∈ l, ∃ ρ', Rle ρ ρ' ∧ RsOk ok E.ro z X w0 ρ' r e w' := by
  obtain ⟨h1, h2⟩ := hI.call f args H n _ l ρ X w0 w vs h hv hm hg
  refine ⟨h1, Calls.mono h2 fun e w' he => ?_⟩
  obtain ⟨r, ρ', L', g1, g2, g3, g4⟩ := he
  cases g1
  exact ⟨r, g2 r (List.mem_cons_self ..), ρ', g3, g4⟩
/-- an entry of the table, reckoned -/
theorem EnOk.of {fuel f : Nat} {e : En} (hI : Snd P ok okc E.ro z (ev E tb fuel)) (h : enB E tb fuel f e = true) (h1 : geL E.ro e.pre = true) (h2 : geL E.ro e.oc.bs = true) : EnOk P E ok z f e := by
  refine ⟨fun ρ X w0 w vs hv hm hg => ?_, geL_spec h1, geL_spec h2⟩
  unfold enB at h
  rw [optR_eq] at h
  cases hl : ev E tb fuel (.call f e.args (ofL e.pre .nil) e.n fun r => some [r]) with
  | none => rw [hl] at h; cases h
  | some l =>
    rw [hl] at h
    obtain ⟨g1, g2⟩ := call_ok hI hl hv hm hg
    refine ⟨g1, Calls.mono g2 fun en w' he => ?_⟩
    obtain ⟨r, hr, ρ', k1, k2⟩ := he
    exact ⟨r, ρ', k1, k2, allOc_spec h r hr⟩
end
end Go.Ev

namespace Go.Ev
set_option linter.unusedVariables false
set_option linter.unusedSimpArgs false
set_option linter.constructorNameAsVariable false
open Go
/-- a zero cell -/
def vrB : V → Value → Bool
  | .b x, .bool y => decide (x = y)
  | .i k n, .int k' m => decide (k = k' ∧ n = m)
  | .s l, .string s => decide (unSt s = l)
  | .pn, .pointer none => true
  | .sn, .slice none l c => Nat.beq l 0 && Nat.beq c 0
  | .mn, .map none => true
  | .fz, .nilFunc => true
  | .iz, .nilIface => true
  | _, _ => false
theorem vrB_spec {v : V} {x : Value} (h : vrB v x = true) : (∀ ρ z, Vr ρ z v x) ∧ x.oneCell' = true := by
  unfold vrB at h
  split at h
  · rw [decide_eq_true_eq] at h; subst h; exact ⟨fun _ _ => .b, rfl⟩
  · rw [decide_eq_true_eq] at h; obtain ⟨rfl, rfl⟩ := h; exact ⟨fun _ _ => .i, rfl⟩
  · rw [decide_eq_true_eq] at h; exact ⟨fun _ _ => .s h, rfl⟩
  · exact ⟨fun _ _ => .pn, rfl⟩
  · rw [Bool.and_eq_true] at h
    have h1 := Nat.eq_of_beq_eq_true h.1
    have h2 := Nat.eq_of_beq_eq_true h.2
    subst h1 h2
    exact ⟨fun _ _ => .sn, rfl⟩
  · exact ⟨fun _ _ => .mn, rfl⟩
  · exact ⟨fun _ _ => .fz, rfl⟩
  · exact ⟨fun _ _ => .iz, rfl⟩
  · cases h
def vrsB : List V → List Value → Bool
  | [], [] => true
  | v :: l, x :: m => vrB v x && vrsB l m
  | _, _ => false
theorem vrsB_spec : ∀ {l : List V} {m : List Value}, vrsB l m = true → (∀ ρ z, Vs ρ z l m) ∧ Fl m
  | [], [], _ => ⟨fun _ _ => .nil, Fl.nil⟩
  | [], _ :: _, h => by cases h
  | _ :: _, [], h => by cases h
  | v :: l, x :: m, h => by
    replace h : (vrB v x && vrsB l m) = true := h
    rw [Bool.and_eq_true] at h
    obtain ⟨h1, h2⟩ := vrB_spec h.1
    obtain ⟨h3, h4⟩ := vrsB_spec h.2
    refine ⟨fun ρ z => .cons (h1 ρ z) (h3 ρ z), fun y hy => ?_⟩
    rcases List.mem_cons.1 hy with rfl | hy
    · exact h2
    · exact h4 y hy
def fsB (P : Program) (t : TypeId) : List (Nat × Nat × Bool) → Nat → Bool
  | [], _ => true
  | f :: r, i => (match Cx.fldV P t i with | some g => Nat.beq g.1 f.1 && Nat.beq g.2.1 f.2.1 && decide (g.2.2 = f.2.2) | none => false) && fsB P t r (i + 1)
theorem fsB_spec {P : Program} {t : TypeId} : ∀ {fs : List (Nat × Nat × Bool)} {i : Nat}, fsB P t fs i = true → ∀ j f, fs[j]? = some f → Cx.fldV P t (i + j) = some (f.1, f.2.1, f.2.2)
  | [], i, _, j, f, h => by simp at h
  | g :: r, i, h, j, f, hj => by
    replace h : ((match Cx.fldV P t i with | some x => Nat.beq x.1 g.1 && Nat.beq x.2.1 g.2.1 && decide (x.2.2 = g.2.2) | none => false) && fsB P t r (i + 1)) = true := h
    rw [Bool.and_eq_true] at h
    cases j with
    | zero =>
      simp at hj
      subst hj
      cases hx : Cx.fldV P t i with
      | none => rw [hx] at h; cases h.1
      | some x =>
        have h1 := h.1
        rw [hx] at h1
        simp only [Bool.and_eq_true, decide_eq_true_eq] at h1
        obtain ⟨x1, x2, x3⟩ := x
        have e1 := Nat.eq_of_beq_eq_true h1.1.1
        have e2 := Nat.eq_of_beq_eq_true h1.1.2
        have e3 := h1.2
        dsimp only at e1 e2 e3
        rw [e1, e2, e3]
    | succ j =>
      have := fsB_spec h.2 j f (by simpa using hj)
      rw [Nat.add_right_comm] at this
      exact this
def dk1 (ti : Ti) : TypeDesc → Bool
  | .int k => decide (k = ti.ik)
  | _ => false
def dk2 (ti : Ti) : TypeDesc → Bool
  | .string => true
  | _ => false
def dk3 (ti : Ti) : TypeDesc → Bool
  | .slice e => Nat.beq e ti.el
  | _ => false
def dk4 (ti : Ti) : TypeDesc → Bool
  | .map k e => Nat.beq k ti.ke && Nat.beq e ti.el
  | _ => false
def dk5 (ti : Ti) : TypeDesc → Bool
  | .array n e => Nat.beq n ti.ln && Nat.beq e ti.el
  | _ => false
def dk7 (ti : Ti) : TypeDesc → Bool
  | .pointer _ => true
  | _ => false
def dk9 (ti : Ti) : TypeDesc → Bool
  | .interface _ => true
  | _ => false
def kdD (ti : Ti) (d : TypeDesc) : Bool := match ti.kd with
  | 1 => dk1 ti d
  | 2 => dk2 ti d
  | 3 => dk3 ti d
  | 4 => dk4 ti d
  | 5 => dk5 ti d
  | 6 => (match d with | .struct _ => true | _ => false)
  | 7 => dk7 ti d
  | 9 => dk9 ti d
  | _ => (match d with | .interface _ => false | _ => true)
def kdB (P : Program) (t : TypeId) (ti : Ti) : Bool := match P.underlying t with | some d => kdD ti d | none => false
def lkNum : Lk → Bool
  | .num _ => true
  | _ => false
def isBit : Option Lk → Bool
  | some .bit => true
  | _ => false
def isBool (P : Program) (t : TypeId) : Bool := match P.underlying t with | some .bool => true | _ => false
def fldB (P : Program) (t : TypeId) (ti : Ti) : Bool := match Cx.fldT P t with | some l => decide (l = ti.fs.map fun f => (f.1, f.2.1)) | none => false
def infB (P : Program) (t : TypeId) (ti : Ti) : Bool := match P.info? t with
  | some i => Nat.beq i.size ti.sz && Nat.beq i.bytes ti.bt && (match i.zero with
    | some u => (match ti.ag with | true => (match u with | .agg ⟨l⟩ => vrsB ti.zr l && Nat.beq l.length ti.sz | _ => false) | false => (match ti.zr, u.cells with | [v], ⟨[x]⟩ => vrB v u && vrB v x | _, _ => false))
    | none => false)
  | none => false
def tiB (P : Program) (t : TypeId) (ti : Ti) : Bool :=
  infB P t ti && kdB P t ti && decide (Cx.aggB P t = ti.ag) && (ti.ag || Nat.beq ti.sz 1) && (!(Nat.beq ti.kd 6) || fsB P t ti.fs 0) && (!ti.ag || !(Nat.ble ti.ln 64) || fldB P t ti) && (ti.ks.isEmpty || !ti.ag || Cx.flat P t (ti.ks.map lkOf)) &&
  (ti.ag || !isBit ti.ks.head? || isBool P t) && (!(Nat.beq ti.kd 6) || !(Nat.beq ti.ks.length 2) || (ti.ks.all lkNum && Cx.int2 P t)) && (!(Nat.beq ti.kd 1) || ti.ks.all lkNum)
theorem tiB_spec {P : Program} {t : TypeId} {ti : Ti} (h : tiB P t ti = true) : TiOk P t ti := by
  unfold tiB at h
  simp only [Bool.and_eq_true] at h
  obtain ⟨⟨⟨⟨⟨⟨⟨⟨⟨h1, h2⟩, h3⟩, h4⟩, h5⟩, h6⟩, h7⟩, h8⟩, h9⟩, h10⟩ := h
  rw [decide_eq_true_eq] at h3
  obtain ⟨d, hd, hk⟩ : ∃ d, P.underlying t = some d ∧ kdD ti d = true := by
    unfold kdB at h2
    split at h2
    · rename_i d hd; exact ⟨d, hd, h2⟩
    · cases h2
  obtain ⟨inf, hi, g1, g2, u, g3, g4⟩ : ∃ i, P.info? t = some i ∧ i.size = ti.sz ∧ i.bytes = ti.bt ∧ ∃ u, i.zero = some u ∧ (match ti.ag with | true => (match u with | .agg ⟨l⟩ => vrsB ti.zr l && Nat.beq l.length ti.sz | _ => false) | false => (match ti.zr, u.cells with | [v], ⟨[x]⟩ => vrB v u && vrB v x | _, _ => false)) = true := by
    unfold infB at h1
    split at h1
    · rename_i i hi
      simp only [Bool.and_eq_true] at h1
      obtain ⟨⟨a1, a2⟩, a3⟩ := h1
      refine ⟨i, hi, Nat.eq_of_beq_eq_true a1, Nat.eq_of_beq_eq_true a2, ?_⟩
      split at a3
      · rename_i u hu; exact ⟨u, hu, a3⟩
      · cases a3
    · cases h1
  have hz : (ti.ag = true → ∃ l, u = .agg ⟨l⟩ ∧ l.length = ti.sz ∧ Fl l ∧ ∀ ρ z, Vs ρ z ti.zr l) ∧ (ti.ag = false → ∃ v x, ti.zr = [v] ∧ u.cells = ⟨[x]⟩ ∧ (∀ ρ z, Vr ρ z v u) ∧ (∀ ρ z, Vr ρ z v x) ∧ x.oneCell' = true) := by
    refine ⟨fun ha => ?_, fun ha => ?_⟩
    · rw [ha] at g4
      dsimp only at g4
      split at g4
      · rename_i l
        rw [Bool.and_eq_true] at g4
        exact ⟨l, rfl, Nat.eq_of_beq_eq_true g4.2, (vrsB_spec g4.1).2, (vrsB_spec g4.1).1⟩
      · cases g4
    · rw [ha] at g4
      dsimp only at g4
      split at g4
      · rename_i v x e1 e2
        rw [Bool.and_eq_true] at g4
        exact ⟨v, x, e1, e2, (vrB_spec g4.1).1, (vrB_spec g4.2).1, (vrB_spec g4.2).2⟩
      · cases g4
  have hsz : ti.ag = false → ti.sz = 1 := fun ha => by
    rw [ha] at h4
    rcases Bool.or_eq_true _ _ ▸ h4 with e | e
    · cases e
    · exact Nat.eq_of_beq_eq_true e
  have imp : ∀ {a b : Bool}, (!a || b) = true → a = true → b = true := by intro a b h1 h2; subst h2; simpa using h1
  refine { sz := by rw [Cx.szO, hi]; exact congrArg some g1, und := by rw [hd]; rfl, ag := h3, bt := ⟨inf, hi, g1, g2⟩, zr := ?_, zv := ⟨inf, u, hi, g3, fun ha => ?_, fun ha => ?_⟩, one := hsz, k1 := fun e => ?_, k2 := fun e => ?_, k3 := fun e => ?_, k4 := fun e => ?_, k5 := fun e => ?_, k9 := fun e ms hm => ?_, k7 := fun e => ?_, fs := fun e i f hf => ?_, ft := fun ha hl => ?_, ks := fun hne ha => ?_, kb := fun ha hb => ?_, k9' := fun e => ?_, i2n := fun e hl k hk => ?_, i1n := fun e k hk => ?_, i2 := fun e hl => ?_ }
  · cases ha : ti.ag with
    | true =>
      obtain ⟨l, e1, e2, e3, e4⟩ := hz.1 ha
      exact ⟨l, by rw [Cx.zer, hi, Option.bind_some, g3, e1]; rfl, e2, e3, e4⟩
    | false =>
      obtain ⟨v, x, e1, e2, e3, e4, e5⟩ := hz.2 ha
      refine ⟨[x], by rw [Cx.zer, hi, Option.bind_some, g3, Option.map_some, e2], (hsz ha).symm, fun y hy => ?_, fun ρ z => ?_⟩
      · rw [List.mem_singleton] at hy; rw [hy]; exact e5
      · rw [e1]; exact .cons (e4 ρ z) .nil
  · obtain ⟨l, e1, e2, e3, e4⟩ := hz.1 ha
    exact ⟨l, e1, e3, e4⟩
  · obtain ⟨v, x, e1, e2, e3, e4, e5⟩ := hz.2 ha
    exact ⟨v, by rw [e1]; rfl, e3⟩
  · replace hk : dk1 ti d = true := by unfold kdD at hk; rw [e] at hk; exact hk
    unfold dk1 at hk
    split at hk
    · rw [decide_eq_true_eq] at hk; rw [hd, hk]
    · cases hk
  · replace hk : dk2 ti d = true := by unfold kdD at hk; rw [e] at hk; exact hk
    unfold dk2 at hk
    split at hk
    · rw [hd]
    · cases hk
  · replace hk : dk3 ti d = true := by unfold kdD at hk; rw [e] at hk; exact hk
    unfold dk3 at hk
    split at hk
    · rw [hd, Nat.eq_of_beq_eq_true hk]
    · cases hk
  · replace hk : dk4 ti d = true := by unfold kdD at hk; rw [e] at hk; exact hk
    unfold dk4 at hk
    split at hk
    · rw [Bool.and_eq_true] at hk; rw [hd, Nat.eq_of_beq_eq_true hk.1, Nat.eq_of_beq_eq_true hk.2]
    · cases hk
  · replace hk : dk5 ti d = true := by unfold kdD at hk; rw [e] at hk; exact hk
    unfold dk5 at hk
    split at hk
    · rw [Bool.and_eq_true] at hk; rw [hd, Nat.eq_of_beq_eq_true hk.1, Nat.eq_of_beq_eq_true hk.2]
    · cases hk
  · rw [hd] at hm
    cases hm
    unfold kdD at hk
    split at hk <;> first | exact Bool.noConfusion hk | exact e (by assumption)
  · replace hk : dk7 ti d = true := by unfold kdD at hk; rw [e] at hk; exact hk
    unfold dk7 at hk
    split at hk
    · exact ⟨_, hd⟩
    · cases hk
  · have := imp h5 (by rw [e]; rfl)
    have := fsB_spec this i f hf
    rw [Nat.zero_add] at this
    exact this
  · have := h6
    rw [ha, Bool.or_eq_true, Bool.or_eq_true] at this
    rcases this with (q | q) | q
    · cases q
    · rw [Nat.ble_eq_true_of_le hl] at q; cases q
    · unfold fldB at q
      split at q
      · rename_i l hl'; rw [decide_eq_true_eq] at q; rw [hl', q]
      · cases q
  · have := h7
    rw [ha, Bool.or_eq_true, Bool.or_eq_true] at this
    rcases this with (q | q) | q
    · exact absurd (List.isEmpty_iff.1 q) hne
    · cases q
    · exact q
  · have := h8
    rw [ha, hb, Bool.or_eq_true, Bool.or_eq_true] at this
    rcases this with (q | q) | q
    · cases q
    · cases q
    · unfold isBool at q
      split at q
      · assumption
      · cases q
  · replace hk : dk9 ti d = true := by unfold kdD at hk; rw [e] at hk; exact hk
    unfold dk9 at hk
    split at hk
    · exact ⟨_, hd⟩
    · cases hk
  · have := h9
    rw [e, hl, Bool.or_eq_true, Bool.or_eq_true] at this
    rcases this with (q | q) | q
    · cases q
    · cases q
    · rw [Bool.and_eq_true, List.all_eq_true] at q
      have := q.1 k hk
      cases k with
      | num q => exact ⟨q, rfl⟩
      | bit => cases this
      | str => cases this
  · have := imp h10 (by rw [e]; rfl)
    rw [List.all_eq_true] at this
    have := this k hk
    cases k with
    | num q => exact ⟨q, rfl⟩
    | bit => cases this
    | str => cases this
  · have := h9
    rw [e, hl, Bool.or_eq_true, Bool.or_eq_true] at this
    rcases this with (q | q) | q
    · cases q
    · cases q
    · rw [Bool.and_eq_true] at q; exact q.2
end Go.Ev

namespace Go.Ev
set_option linter.unusedVariables false
set_option linter.unusedSimpArgs false
set_option linter.constructorNameAsVariable false
open Go
def eP {α : Type} (f : α → Prop) : Option α → Prop
  | some x => f x
  | none => True
def eB {α : Type} (f : α → Bool) : Option α → Bool
  | some x => f x
  | none => true
/-- each entry of a tree: f holds of its key and of what stands there -/
def allK {α : Type} (f : Nat → α → Bool) : T α → Nat → Nat → Bool
  | .nil, _, _ => true
  | .node l v r, s, o => eB (f o) v && (allK f l (2 * s) o && allK f r (2 * s) (s + o))
def allP {α : Type} (f : Nat → α → Prop) : T α → Nat → Nat → Prop
  | .nil, _, _ => True
  | .node l v r, s, o => eP (f o) v ∧ (allP f l (2 * s) o ∧ allP f r (2 * s) (s + o))
theorem allP_spec {α : Type} {f : Nat → α → Prop} : ∀ {t : T α} {s o n : Nat} {x : α}, allP f t s o → T.get t n = some x → f (n * s + o) x
  | .nil, s, o, n, x, h, hx => by rw [T.get_nil] at hx; cases hx
  | .node l v r, s, o, n, x, h, hx => by
    replace h : eP (f o) v ∧ (allP f l (2 * s) o ∧ allP f r (2 * s) (s + o)) := h
    obtain ⟨h1, h2, h3⟩ := h
    rw [T.get_node] at hx
    by_cases h0 : n = 0
    · rw [if_pos h0] at hx
      subst hx h0
      rw [Nat.zero_mul, Nat.zero_add]
      exact h1
    · rw [if_neg h0] at hx
      have hd := Nat.div_add_mod n 2
      by_cases he : n % 2 = 0
      · rw [if_pos he] at hx
        have := allP_spec h2 hx
        have e : n / 2 * (2 * s) + o = n * s + o := by
          rw [← Nat.mul_assoc]
          have : n / 2 * 2 = n := by omega
          rw [this]
        rw [e] at this
        exact this
      · rw [if_neg he] at hx
        have := allP_spec h3 hx
        have e : n / 2 * (2 * s) + (s + o) = n * s + o := by
          rw [← Nat.mul_assoc, ← Nat.add_assoc]
          have : n = n / 2 * 2 + 1 := by omega
          have h9 : n * s = n / 2 * 2 * s + s := by
            conv => lhs; rw [this]
            rw [Nat.add_mul, Nat.one_mul]
          rw [h9]
        rw [e] at this
        exact this
theorem allK_P {α : Type} {f : Nat → α → Bool} : ∀ {t : T α} {s o : Nat}, allK f t s o = true → allP (fun n x => f n x = true) t s o
  | .nil, s, o, h => trivial
  | .node l v r, s, o, h => by
    replace h : (eB (f o) v && (allK f l (2 * s) o && allK f r (2 * s) (s + o))) = true := h
    rw [Bool.and_eq_true, Bool.and_eq_true] at h
    refine ⟨?_, allK_P h.2.1, allK_P h.2.2⟩
    cases v with
    | none => exact trivial
    | some x => exact h.1
theorem allK_spec {α : Type} {f : Nat → α → Bool} {t : T α} {n : Nat} {x : α} (h : allK f t 1 0 = true) (hx : T.get t n = some x) : f n x = true := by
  have := allP_spec (allK_P h) hx
  rw [Nat.mul_one, Nat.add_zero] at this
  exact this
section
variable {P : Program} {E : Env} {z : Int}
theorem EnvOk.of (h : allK (fun t ti => tiB P t ti) E.ty 1 0 = true) (hb : E.mb = decide ((3 : Int) ≤ z)) : EnvOk P E z := ⟨fun t ti ht => tiB_spec (allK_spec h ht), hb⟩
theorem IvOk.of {nm : String} (h : allK (fun t f => decide (Cx.methF P t nm = some f)) E.iv 1 0 = true) : IvOk P E nm := ⟨fun t f ht v args w => by
  have hm := allK_spec h ht
  rw [decide_eq_true_eq] at hm
  obtain ⟨q, hq⟩ : ∃ q, P.types.size + Made.depth = q + 1 := ⟨P.types.size + Made.depth - 1, by have h9 : 0 < Made.depth := (by decide); omega⟩
  simp only [callMethod, Sem.run_bind, run_program, Result.andThen_ok]
  rw [hq, Cx.run_method hm]
  simp only [Result.andThen_ok]⟩
theorem FnOk.of {nm : String} (h1 : allP (fun k fn => P.funcs[k]? = some fn) E.fn 1 0) (h2 : allK (fun k fn => Cx.isGo P k && (match fn.body with | some c => okcB E.pl nm k fn.ntmps c | none => true)) E.fn 1 0 = true) : FnOk P E (okcP E nm) := ⟨fun f fn hf => by
  have g1 := allP_spec h1 hf
  have g2 := allK_spec h2 hf
  rw [Nat.mul_one, Nat.add_zero] at g1
  rw [Bool.and_eq_true] at g2
  refine ⟨g1, fun c hc => ?_, g2.1⟩
  have := g2.2
  rw [hc] at this
  exact this⟩
theorem ExtOk.of {f g : Func} (h1 : P.funcs[E.ix]? = some f) (h2 : P.funcs[E.ib]? = some g) (hn1 : (f.name == "runtime.NumGoroutine") = false) (hn2 : (g.name == "runtime.NumGoroutine") = false) (hb1 : f.body.isNone = true) (hb2 : g.body.isNone = true) (hx1 : Extern.findNext f = none) (hx2 : Extern.findNext g = none)
    (he1 : Extern.find f = some Extern.BytealgIndex.index) (he2 : Extern.find g = some Extern.BytealgIndexByte.indexByte) (hg : P.globals.findIdx? (·.name == "internal/bytealg.MaxLen") = some 0) : ExtOk P E where
  ix args w w' y h := by rw [run_callFunc_extern h1 hn1 hb1 hx1 he1, h]; rfl
  ib args w w' y h := by rw [run_callFunc_extern h2 hn2 hb2 hx2 he2, h]; rfl
  mx w := by simp only [globalAddr, Sem.run_bind, run_program, Result.andThen_ok]; rw [hg]; rfl
end
end Go.Ev

namespace Go.Pl
theorem chunks_ok {c : Cm} {s : Int} (hc : ccheck c = 0) : ∀ d ∈ chunks c s, ccheck d = 0 := fun d hd => by
  unfold chunks at hd
  split at hd
  · cases hd
  · obtain ⟨k, hk, rfl⟩ := List.mem_map.1 hd
    have := List.mem_range.1 hk
    exact (chAt_check hc (by omega)).1
theorem exs_le {f : List UInt8} {c : Cm} (hc : ccheck c = 0) : ((exs f [c]).getD []).length ≤ f.length := by
  unfold exs
  split
  · rename_i h
    simp only [List.all_cons, List.all_nil, Bool.and_true] at h
    simp only [Option.getD_some, List.foldl_cons, List.foldl_nil]
    rw [ex1_length hc h]
    exact Nat.le_refl _
  · simp
end Go.Pl
