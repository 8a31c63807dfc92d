/- The program logic of these proofs and the plain laws of the layers below, part 3. No condition. -/
import Derived.Maps.RangeRun
import Derived.RangeFuncRecord
import Derived.RecoverIn
import Derived.Test.YtaehgpeenaomcaaGreatBs2
namespace Go.Ev
set_option linter.unusedVariables false
set_option linter.unusedSimpArgs false
set_option linter.constructorNameAsVariable false
open Go
section
variable {P : Program} {E : Env} {ok : Nat → Nat → Code → Code → List Nat → Prop} {z : Int} {ρ : Rho} {X : Xz} {w0 w : World} {H : T Bk} {n ro : Nat} {S : T V} {a : Act} {v : V}
theorem hIface_ok (hE : EnvOk P E z) {t : TypeId} {x : Operand} (hx : Ox ρ z S a x) (h : hIface E t x S H = some v) : ∃ y, Vr ρ z v y ∧ RunV P a w (.makeInterface t x) y := by
  simp only [hIface, bnd_some] at h
  obtain ⟨p, hp, ti, hti, h⟩ := h
  rw [ite_eq] at h
  split at h
  · cases h
  rename_i hk
  rw [beqN, decide_eq_true_eq] at hk
  cases h
  obtain ⟨x', h1, h2, h3⟩ := hx.ev hp
  have hT := hE.ty _ _ hti
  obtain ⟨d, hd⟩ := Option.isSome_iff_exists.1 hT.und
  refine ⟨_, .iv h3, RunV.y fun _ _ _ _ _ => Cx.y_iface h1 hd ?_⟩
  cases d <;> first | rfl | exact absurd hd (hT.k9 hk _)
theorem hLookup_ok (hE : EnvOk P E z) {t : TypeId} {x k : Operand} {c : Bool} (hx : Ox ρ z S a x) (hy : Ox ρ z S a k) (hm : Mr ok ro z ρ X w0 H n w) (h : hLookup E t x k c S H = some v) : ∃ y, Vr ρ z v y ∧ RunV P a w (.lookup t x k c) y := by
  simp only [hLookup, bnd_some, ite_some, beqN, decide_eq_true_eq, onM_some, blk_some, onMap_some] at h
  obtain ⟨p, hp, q, hq, ti, hti, hk, tk, htk, te, hte, h⟩ := h
  obtain ⟨x', h1, h2, h3⟩ := hx.ev hp
  obtain ⟨kv, g1, g2, g3⟩ := hy.ev hq
  have hT := hE.ty _ _ hti
  have hK := hE.ty _ _ htk
  have hU := hE.ty _ _ hte
  have hun := run_underlying (P := P) (hT.k4 hk) w
  rcases h with ⟨id, rfl, b, hb, es, ck, rfl, r, hr, h⟩ | ⟨rfl, hko, cc, hcc, z0, hz0, h⟩
  · cases h3 with
    | m hid =>
      obtain ⟨o, ho, hbr⟩ := hm.own _ _ _ hb hid
      cases hbr with
      | map hes =>
        rename_i es'
        obtain ⟨_, e1, r', e2, e3⟩ := findKO_ok (w := w) hK g3 hes hr
        have e1 := e1 es'.isEmpty 9998
        cases r with
        | none =>
          replace h : bnd (zeroV te) (fun z => some (ite_ c (.t [z, .b false]) z)) = some v := h
          rw [bnd_some] at h
          obtain ⟨z0, hz0, h⟩ := h
          cases h
          obtain ⟨u, f1, f2⟩ := zeroV_ok (w := w) hU hz0
          have e2 : r' = none := e2
          subst e2
          cases c with
          | true => exact ⟨_, .t' (.cons f1 (.cons .b .nil)), fun dst ty pos af g => by simp [execOp, h2, g2, Instr.lookup, hun, Cx.run_getObj ho rfl, e1, e3, f2]⟩
          | false => exact ⟨_, f1, fun dst ty pos af g => by simp [execOp, h2, g2, Instr.lookup, hun, Cx.run_getObj ho rfl, e1, e3, f2]⟩
        | some je =>
          obtain ⟨j, e⟩ := je
          obtain ⟨e', _, c1, c2, c3, c4, c5⟩ := e2
          replace h : some (ite_ c (.t [e.val, .b true]) e.val) = some v := h
          cases h
          subst c4
          cases c with
          | true => exact ⟨_, .t' (.cons c3.val (.cons .b .nil)), fun dst ty pos af g => by simp [execOp, h2, g2, Instr.lookup, hun, Cx.run_getObj ho rfl, e1, e3]⟩
          | false => exact ⟨_, c3.val, fun dst ty pos af g => by simp [execOp, h2, g2, Instr.lookup, hun, Cx.run_getObj ho rfl, e1, e3]⟩
  · cases h3
    cases h
    obtain ⟨e0, e1⟩ := key_ok (w := w) hK hko g3 hcc
    have e1 := e1 true 9998
    obtain ⟨u, f1, f2⟩ := zeroV_ok (w := w) hU hz0
    have e3 : (Instr.findKey ti.ke kv []).run P w = .ok none w := by
      obtain ⟨d, hd⟩ := Option.isSome_iff_exists.1 hK.und
      simp [Instr.findKey, run_underlying hd, Instr.findNow]
    cases c with
    | true => exact ⟨_, .t' (.cons f1 (.cons .b .nil)), fun dst ty pos af g => by simp [execOp, h2, g2, Instr.lookup, hun, e1, e3, f2]⟩
    | false => exact ⟨_, f1, fun dst ty pos af g => by simp [execOp, h2, g2, Instr.lookup, hun, e1, e3, f2]⟩
theorem hAssert_ok (hE : EnvOk P E z) {x : Operand} {xt t : TypeId} {c : Bool} (hx : Ox ρ z S a x) (h : hAssert E x t c S H = some v) : ∃ y, Vr ρ z v y ∧ RunV P a w (.typeAssert x xt t c) y := by
  simp only [hAssert, bnd_some, ite_some] at h
  obtain ⟨p, hp, rfl, ti, hti, z0, hz0, h⟩ := h
  rw [ite_eq] at h
  split at h
  · cases h
  rename_i hk
  rw [beqN, decide_eq_true_eq] at hk
  obtain ⟨x', h1, h2, h3⟩ := hx.ev hp
  have hT := hE.ty _ _ hti
  obtain ⟨d, hd⟩ := Option.isSome_iff_exists.1 hT.und
  have hni := hT.k9 hk
  rw [hd] at hni
  have hun := run_underlying (P := P) hd w
  obtain ⟨u, f1, f2⟩ := zeroV_ok (ρ := ρ) (z := z) (w := w) hT hz0
  simp only [onIf_some] at h
  rcases h with ⟨t', b, rfl, h⟩ | ⟨rfl, h⟩
  · replace h := Option.some.inj h
    subst h
    cases h3 with
    | iv h4 =>
      rename_i b'
      by_cases ht : t' = t
      · have e : Nat.beq t' t = true := by rw [beqN, ht]; simp
        rw [e]
        refine ⟨_, .t' (.cons h4 (.cons .b .nil)), fun dst ty pos af g => ?_⟩
        cases d <;> first | exact absurd rfl (hni _) | simp [execOp, h2, Instr.typeAssert, hun, ht]
      · have e : Nat.beq t' t = false := by rw [beqN]; simpa using ht
        rw [e]
        refine ⟨_, .t' (.cons f1 (.cons .b .nil)), fun dst ty pos af g => ?_⟩
        cases d <;> first | exact absurd rfl (hni _) | simp [execOp, h2, Instr.typeAssert, hun, ht, f2]
  · replace h := Option.some.inj h
    subst h
    cases h3
    refine ⟨_, .t' (.cons f1 (.cons .b .nil)), fun dst ty pos af g => ?_⟩
    cases d <;> first | exact absurd rfl (hni _) | simp [execOp, h2, Instr.typeAssert, hun, f2]
theorem hEntry_ok {x : Operand} (hx : Ox ρ z S a x) (hm : Mr ok ro z ρ X w0 H n w) (h : hEntry x S H = some v) : ∃ y, Vr ρ z v y ∧ RunV P a w (.entry x) y := by
  simp only [hEntry, bnd_some, onP_some, ite_some, beqN, decide_eq_true_eq, blk_some, onIter_some, onMap_some] at h
  obtain ⟨p, hp, id, off, rfl, rfl, b, hb, m, since, seen, stepped, rfl, mid, rfl, mb, hmb, es, ck, rfl, rfl, s, hs, e, he, h⟩ := h
  cases h
  obtain ⟨x', h1, h2, h3⟩ := hx.ev hp
  cases h3 with
  | p hid =>
    obtain ⟨o, ho, hr⟩ := hm.own _ _ _ hb hid
    cases hr with
    | iter hmid =>
      obtain ⟨o2, ho2, hr2⟩ := hm.own _ _ _ hmb hmid
      cases hr2 with
      | map hes =>
        rename_i es'
        have hlast : ∀ (l : List Nat) (s : Nat), lastN l = some s → l.getLast? = some s := fun l => by
          induction l with
          | nil => intro s h; cases h
          | cons y r ih =>
            intro s h
            cases r with
            | nil => exact h
            | cons y' r' => rw [List.getLast?_cons_cons]; exact ih s h
        have hback : (⟨seen⟩ : Array Nat).back? = some s := by rw [← hlast seen s hs]; simp
        have hfind : ∀ {l : List Me} {l' : List MapEntry}, Ers ρ z l l' → ∀ e, bornE s l = some e → ∃ e', l'.find? (·.born == s) = some e' ∧ Er ρ z e e' := fun h => by
          induction h with
          | nil => intro e h; cases h
          | cons h1 t ih =>
            rename_i e0 x0 l0 m0
            intro e h
            have e1 : bornE s (e0 :: l0) = ite_ (Nat.beq e0.born s) (some e0) (bornE s l0) := rfl
            rw [e1, ite_eq, beqN] at h
            simp only [List.find?_cons]
            by_cases hb : e0.born = s
            · rw [if_pos (by simpa using hb)] at h
              cases h
              exact ⟨_, by rw [h1.born, hb]; simp, h1⟩
            · rw [if_neg (by simpa using hb)] at h
              obtain ⟨e', g1, g2⟩ := ih e h
              refine ⟨e', ?_, g2⟩
              have : (x0.born == s) = false := by rw [h1.born]; simpa using hb
              rw [this]; exact g1
        obtain ⟨e', g1, g2⟩ := hfind hes e he
        refine ⟨_, .t' (.cons g2.key (.cons g2.val .nil)), fun dst ty pos af g => ?_⟩
        simp only [Nat.zero_add] at h2
        simp [execOp, h2, Instr.entry, Cx.run_getObj ho rfl, Cx.run_getObj ho2 rfl, hback, g1]
/-! ### Cuts -/
theorem run_sb {isS : Bool} {len cap l h m : Nat} {lo hi mx : Option Value} (hm : match mx with | none => m = cap | some v => ∃ k, v = .int k (m : Int)) (hmc : m ≤ cap) (hh : match hi with | none => mx = none ∧ h = len | some v => ∃ k, v = .int k (h : Int)) (hhm : h ≤ m)
    (hl : match lo with | none => l = 0 | some v => ∃ k, v = .int k (l : Int)) (hlh : l ≤ h) : (Instr.sliceBounds isS len cap lo hi mx).run P w = .ok (l, h, m) w := by
  have e1 : ∀ (k : IntKind) (i y : Nat) (c : BoundsCode), i ≤ y → (Instr.sliceBound (.int k i) y c).run P w = .ok i w := fun k i y c h => by
    have h' : (i : Int) ≤ y := by omega
    simp [Instr.sliceBound, asIntOf, h']
  unfold Instr.sliceBounds
  cases mx with
  | none =>
    subst hm
    cases hi with
    | none =>
      obtain ⟨_, rfl⟩ := hh
      cases lo with
      | none => subst hl; simp
      | some y => obtain ⟨k, rfl⟩ := hl; simp [e1 k l _ _ hlh]
    | some y =>
      obtain ⟨k, rfl⟩ := hh
      cases lo with
      | none => subst hl; simp [e1 k h _ _ hhm]
      | some y => obtain ⟨k', rfl⟩ := hl; simp [e1 k h _ _ hhm, e1 k' l _ _ hlh]
  | some u =>
    obtain ⟨k0, rfl⟩ := hm
    cases hi with
    | none => obtain ⟨h0, _⟩ := hh; cases h0
    | some y =>
      obtain ⟨k, rfl⟩ := hh
      cases lo with
      | none => subst hl; simp [e1 k0 m _ _ hmc, e1 k h _ _ hhm]
      | some y => obtain ⟨k', rfl⟩ := hl; simp [e1 k0 m _ _ hmc, e1 k h _ _ hhm, e1 k' l _ _ hlh]
/-- an operand that stands for a bound -/
def Bd (a : Act) (x : Option Operand) (d i : Nat) : Prop := match x with | none => i = d | some x => ∃ k, a.eval x = .int k (i : Int)
theorem optN_some {β : Type} {x : Option Operand} {d : Nat} {k : Nat → Option β} {y : β} (hx : ∀ o, x = some o → Ox ρ z S a o) (h : optN S x d k = some y) : ∃ i, Bd a x d i ∧ k i = some y := by
  cases x with
  | none => exact ⟨d, rfl, h⟩
  | some o =>
    replace h : bnd (evO S o) (fun v => idxN v k) = some y := h
    simp only [bnd_some, idxN_some] at h
    obtain ⟨_, hv, kd, i, rfl, h⟩ := h
    obtain ⟨x', _, h2, h3⟩ := (hx o rfl).ev hv
    cases h3
    exact ⟨i, ⟨kd, h2⟩, h⟩
theorem Bd.lo {x : Option Operand} {d i : Nat} (h : Bd a x d i) : match x.map a.eval with | none => i = d | some v => ∃ k, v = .int k (i : Int) := by cases x <;> exact h
theorem cutS_some {id off len cap es l h m : Nat} (e : cutS id off len cap es l h m = some v) : m ≤ cap ∧ h ≤ m ∧ l ≤ h ∧ v = .sl id (if m = l then off else off + l * es) (h - l) (m - l) := by
  simp only [cutS, le_some, frN_eq] at e
  obtain ⟨h1, h2, h3, e⟩ := e
  refine ⟨h1, h2, h3, ?_⟩
  cases e
  rw [ite_eq, beqN]
  simp only [decide_eq_true_eq]
  rfl
theorem addr_add {m o k : Nat} : (⟨m, o, none⟩ : Addr).add k = ⟨m, o + k, none⟩ := by
  unfold Addr.add; split
  · rename_i h; rw [h]; simp
  · simp
theorem hSlice_ok (hE : EnvOk P E z) {t : TypeId} {x : Operand} {lo hi mx : Option Operand} (hx : Ox ρ z S a x) (hlo : ∀ o, lo = some o → Ox ρ z S a o) (hhi : ∀ o, hi = some o → Ox ρ z S a o) (hmx : ∀ o, mx = some o → Ox ρ z S a o) (h : hSlice E t x lo hi mx S H = some v) :
    ∃ y, Vr ρ z v y ∧ RunV P a w (.slice t x lo hi mx) y := by
  simp only [hSlice, bnd_some] at h
  obtain ⟨p, hp, ti, hti, te, hte, h⟩ := h
  obtain ⟨x', h1, h2, h3⟩ := hx.ev hp
  have hT := hE.ty _ _ hti
  have hU := hE.ty _ _ hte
  have hsz := Cx.run_szO (w := w) hU.sz
  have hmxhi : ∀ {c : Option V}, ite_ (andB (Option.isSome mx) (notB (Option.isSome hi))) none c = some v → c = some v ∧ (hi = none → mx = none) := fun {c} e => by
    rw [ite_eq, andB_eq, notB_eq] at e
    split at e
    · cases e
    · rename_i hh
      refine ⟨e, fun e2 => ?_⟩
      subst e2
      cases mx with
      | none => rfl
      | some o => simp at hh
  have sb : ∀ {isS : Bool} {len cap l h' m : Nat}, Bd a mx cap m → m ≤ cap → Bd a hi len h' → (hi = none → mx = none) → h' ≤ m → Bd a lo 0 l → l ≤ h' → (Instr.sliceBounds isS len cap (lo.map a.eval) (hi.map a.eval) (mx.map a.eval)).run P w = .ok (l, h', m) w :=
    fun b1 b2 b3 b4 b5 b6 b7 => run_sb b1.lo b2 (by cases hi with
      | none => have := b4 rfl; subst this; exact ⟨rfl, b3⟩
      | some o => exact b3) b5 b6.lo b7
  rw [ite_eq] at h
  split at h
  · rename_i hk
    rw [beqN, decide_eq_true_eq] at hk
    simp only [onP_some] at h
    obtain ⟨id, off, rfl, h⟩ := h
    obtain ⟨m, b1, h⟩ := optN_some hmx h
    obtain ⟨h', b3, h⟩ := optN_some hhi h
    obtain ⟨l, b6, h⟩ := optN_some hlo h
    obtain ⟨h, b4⟩ := hmxhi h
    obtain ⟨c1, c2, c3, rfl⟩ := cutS_some h
    cases h3 with
    | p hid =>
      rename_i m' B N
      have hb := sb (isS := false) b1 c1 b3 b4 c2 b6 c3
      refine ⟨.slice (some ⟨m', B + (if m = l then off else off + l * te.sz), none⟩) (h' - l) (m - l), .sl hid, fun dst ty pos af g => ?_⟩
      have ha : (if m = l then (⟨m', B + off, none⟩ : Addr) else (⟨m', B + off, none⟩ : Addr).add (l * te.sz)) = ⟨m', B + (if m = l then off else off + l * te.sz), none⟩ := by
        split
        · rfl
        · rw [addr_add, Nat.add_assoc]
      simp only [execOp, h2, Instr.sliceAt, Sem.run_bind, run_underlying (hT.k5 hk), Result.andThen_ok, Instr.sureAddr, Sem.run_pure, hb, hsz, ha]
  · rw [ite_some, beqN, decide_eq_true_eq] at h
    obtain ⟨hk, h⟩ := h
    have hun := run_underlying (P := P) (hT.k3 hk) w
    have hrun : ∀ {q : Option Addr} {len cap l h' m : Nat}, x' = .slice q len cap → (Instr.sliceBounds true len cap (lo.map a.eval) (hi.map a.eval) (mx.map a.eval)).run P w = .ok (l, h', m) w → RunV P a w (.slice t x lo hi mx) (.slice (if m = l then q else q.map (·.add (l * te.sz))) (h' - l) (m - l)) :=
      fun hq hb dst ty pos af g => by
        subst hq
        simp only [execOp, h2, Instr.sliceAt, Sem.run_bind, hun, Result.andThen_ok, Instr.slice, hb, hsz, Sem.run_pure]
    simp only [onS_some, reduceCtorEq, and_false, exists_false, or_false] at h
    rcases h with ⟨id, off, len, cap, rfl, h⟩ | ⟨id, off, len, es, rfl, h⟩ | ⟨rfl, h⟩
    · obtain ⟨m, b1, h⟩ := optN_some hmx h
      obtain ⟨h', b3, h⟩ := optN_some hhi h
      obtain ⟨l, b6, h⟩ := optN_some hlo h
      obtain ⟨h, b4⟩ := hmxhi h
      obtain ⟨c1, c2, c3, rfl⟩ := cutS_some h
      cases h3 with
      | sl hid =>
        rename_i m' B N
        refine ⟨_, ?_, hrun rfl (sb b1 c1 b3 b4 c2 b6 c3)⟩
        have ha : (if m = l then (some ⟨m', B + off, none⟩ : Option Addr) else (some (⟨m', B + off, none⟩ : Addr)).map (·.add (l * te.sz))) = some ⟨m', B + (if m = l then off else off + l * te.sz), none⟩ := by
          split
          · rfl
          · rw [Option.map_some, addr_add, Nat.add_assoc]
        rw [ha]
        exact .sl hid
    · rw [ite_some, beqN, decide_eq_true_eq] at h
      obtain ⟨hes, h⟩ := h
      obtain ⟨l, b6, h⟩ := optN_some hlo h
      obtain ⟨h', b3, h⟩ := optN_some hhi h
      simp only [le_some] at h
      obtain ⟨c1, c2, h⟩ := h
      cases mx with
      | none =>
        replace h : frN (Nat.add off (Nat.mul l es)) (fun o => frN (Nat.sub h' l) fun n => some (V.su id o n es)) = some v := h
        simp only [frN_eq, Option.some.injEq] at h
        subst h
        cases h3 with
        | su hid hc hl =>
          rename_i m' B N c
          refine ⟨_, ?_, hrun rfl (sb (m := c) (rfl : Bd a none c c) (Nat.le_refl _) b3 (fun _ => rfl) (by omega) b6 c2)⟩
          by_cases e : c = l
          · have h0 : h' - l = 0 := by omega
            have h1 : c - l = 0 := by omega
            rw [if_pos e]
            show Vr ρ z (.su id _ (h' - l) es) _
            rw [h0, h1]
            exact .se hid
          · rw [if_neg e, Option.map_some, addr_add, ← hes, Nat.add_assoc]
            refine .su hid ?_ (Nat.sub_le_sub_right (by omega) l)
            show B + (off + l * es) + (c - l) * es = N
            rw [← hc, Nat.sub_mul]
            have : l * es ≤ c * es := Nat.mul_le_mul_right _ (by omega)
            omega
        | se hid =>
          rename_i m' B N q
          have hl0 : l = 0 := by omega
          have hh0 : h' = 0 := by omega
          subst hl0 hh0
          refine ⟨_, ?_, hrun rfl (sb (m := 0) (rfl : Bd a none 0 0) (Nat.le_refl _) b3 (fun _ => rfl) (Nat.le_refl _) b6 (Nat.le_refl _))⟩
          rw [if_pos rfl]
          exact .se hid
      | some mo =>
        cases hi with
        | none => cases h
        | some ho =>
          replace h : bnd (evO S mo) (fun mv => idxN mv fun m => le_ m len (le_ h' m (ite_ (Nat.beq len 0) none (cutS id off len len es l h' m)))) = some v := h
          simp only [bnd_some, idxN_some, le_some] at h
          obtain ⟨_, hmv, kd, m, rfl, d1, d2, h⟩ := h
          obtain ⟨y', _, k2, k3⟩ := (hmx mo rfl).ev hmv
          cases k3
          rw [ite_eq] at h
          split at h
          · cases h
          rename_i hl0
          rw [beqN, decide_eq_true_eq] at hl0
          obtain ⟨_, _, _, rfl⟩ := cutS_some h
          cases h3 with
          | su hid hc hl =>
            rename_i m' B N c
            refine ⟨_, ?_, hrun rfl (sb (m := m) (⟨kd, k2⟩ : Bd a (some mo) c m) (by omega) b3 (fun e => by cases e) d2 b6 c2)⟩
            have ha : (if m = l then (some ⟨m', B + off, none⟩ : Option Addr) else (some (⟨m', B + off, none⟩ : Addr)).map (·.add (l * te.sz))) = some ⟨m', B + (if m = l then off else off + l * es), none⟩ := by
              split
              · rfl
              · rw [Option.map_some, addr_add, Nat.add_assoc, ← hes]
            rw [ha]
            exact .sl hid
          | se hid => omega
    · obtain ⟨m, b1, hA⟩ := optN_some hmx h
      obtain ⟨h', b3, hB⟩ := optN_some hhi hA
      obtain ⟨l, b6, hC'⟩ := optN_some hlo hB
      obtain ⟨hC, b4⟩ := hmxhi hC'
      simp only [ite_some, andB_eq, beqN, Bool.and_eq_true, decide_eq_true_eq] at hC
      obtain ⟨⟨hm0, hh0, hl0⟩, hD⟩ := hC
      have hD := Option.some.inj hD
      subst hD
      subst hm0 hh0 hl0
      cases h3
      exact ⟨_, .sn, hrun rfl (sb b1 (Nat.le_refl _) b3 b4 (Nat.le_refl _) b6 (Nat.le_refl _))⟩
end
end Go.Ev

namespace Go.Ev
set_option linter.unusedVariables false
set_option linter.unusedSimpArgs false
set_option linter.constructorNameAsVariable false
open Go
/-- a deferred call, or the mark of a range over a function -/
inductive Dr (ρ : Rho) (z : Int) : Df → Deferred → Prop where
  | mark {id m B N : Nat} (h : ρ id = some (m, B, N)) : Dr ρ z (.mark id) { target := .collected m, args := #[] }
  | call {f : Nat} {args : List V} {vs ca : List Value} (h : Vs ρ z args (vs ++ ca)) : Dr ρ z (.call f args) { target := .fn (.func f) ⟨ca⟩, args := ⟨vs⟩ }
inductive Drs (ρ : Rho) (z : Int) : List Df → List Deferred → Prop where
  | nil : Drs ρ z [] []
  | cons {d : Df} {x : Deferred} {l : List Df} {m : List Deferred} (h : Dr ρ z d x) (t : Drs ρ z l m) : Drs ρ z (d :: l) (x :: m)
theorem Dr.mono {ρ σ : Rho} {z : Int} {d : Df} {x : Deferred} (h : Dr ρ z d x) (hle : Rle ρ σ) : Dr σ z d x := by
  cases h with
  | mark h => exact .mark (hle _ _ h)
  | call h => exact .call (h.mono hle)
theorem Drs.mono {ρ σ : Rho} {z : Int} {l : List Df} {m : List Deferred} (h : Drs ρ z l m) (hle : Rle ρ σ) : Drs σ z l m := by
  induction h with
  | nil => exact .nil
  | cons h _ ih => exact .cons (h.mono hle) ih
def Sb (L' L : List Rs) : Prop := ∀ r ∈ L', r ∈ L
theorem Sb.refl (L : List Rs) : Sb L L := fun _ h => h
theorem Sb.trans {A B C : List Rs} (h : Sb A B) (g : Sb B C) : Sb A C := fun r hr => g r (h r hr)
/-- An operation that acts: what the walk goes on with. -/
def EffOk (P : Program) (ok : Nat → Nat → Code → Code → List Nat → Prop) (ro : Nat) (z : Int) (ρ : Rho) (X : Xz) (w0 : World) (a : Act) (w : World) (op : Op) (kv : Kv) (S : T V) (D : List Df) (L : List Rs) : Prop :=
  ∃ v y w' H' n' ρ' L', kv v ⟨S, H', n', D⟩ = some L' ∧ Sb L' L ∧ Rle ρ ρ' ∧ Vr ρ' z v y ∧ Mr ok ro z ρ' X w0 H' n' w' ∧ ∀ dst ty pos af g, (execOp a.eval ⟨dst, op, ty, pos, af, g⟩).run P w = .ok (.value y) w' ∨ ((execOp a.eval ⟨dst, op, ty, pos, af, g⟩).run P w = .ok .skip w' ∧ y = undef)
section
variable {P : Program} {E : Env} {ok : Nat → Nat → Code → Code → List Nat → Prop} {z : Int} {ρ : Rho} {X : Xz} {w0 w : World} {H : T Bk} {n ro : Nat} {S : T V} {a : Act} {v : V} {D : List Df} {kv : Kv} {kx : Kx} {L : List Rs}
theorem setB_eq (id : Nat) (b : Bk) : setB ⟨S, H, n, D⟩ id b = ⟨S, T.put (some b) H id, n, D⟩ := rfl
theorem newB_eq (b : Bk) : newB ⟨S, H, n, D⟩ b = ⟨S, T.put (some b) H n, n + 1, D⟩ := rfl
/-- a new row -/
theorem lay_row {t e : Nat} {l : List V} {cs : List Value} (hm : Mr ok ro z ρ X w0 H n w) (hl : Vs ρ z l cs) (hf : Fl cs) (tail : List Value) (w1 : World) (hw : Cx.Ext Cx.No w w1) (cl : Bool) :
    Rle ρ (ρ.set n (w1.heap.size, 0, (cs ++ tail).length)) ∧ Mr ok ro z (ρ.set n (w1.heap.size, 0, (cs ++ tail).length)) X w0 (T.put (some (.row t l cl)) H n) (n + 1) (w1.alloc (.cells ⟨cs ++ tail⟩ e)) := by
  have hle := Rho.set_le (x := (w1.heap.size, 0, (cs ++ tail).length)) (hm.new n (Nat.le_refl _))
  have ht : ((cs ++ tail).drop 0).take l.length = cs := by rw [List.drop_zero, hl.len, List.take_append_of_le_length (Nat.le_refl _), List.take_length]
  exact hm.lay (hw.trans (Cx.ext_alloc _ _)) hw.size (o := .cells ⟨cs ++ tail⟩ e) (by show (w1.heap.push _)[w1.heap.size]? = _; simp) (.row (fz := (0, 0)) rfl (by rw [ht]; exact ⟨hl.mono hle, hf⟩) ⟨fun j _ h => Nat.not_lt_zero _ h.2, Nat.le_refl _⟩)
theorem lay_row0 {t e : Nat} {l : List V} {cs : List Value} (hm : Mr ok ro z ρ X w0 H n w) (hl : Vs ρ z l cs) (hf : Fl cs) (cl : Bool) :
    Rle ρ (ρ.set n (w.heap.size, 0, cs.length)) ∧ Mr ok ro z (ρ.set n (w.heap.size, 0, cs.length)) X w0 (T.put (some (.row t l cl)) H n) (n + 1) (w.alloc (.cells ⟨cs⟩ e)) := by
  have := lay_row (t := t) (e := e) hm hl hf [] w (Cx.Ext.refl _ _) cl
  simpa using this
/-- a new object -/
theorem lay_obj {b : Bk} {o : Obj} (hm : Mr ok ro z ρ X w0 H n w) (hb : Br ok (ρ.set n (w.heap.size, 0, 0)) z b (w.heap.size, 0, 0) o) : Rle ρ (ρ.set n (w.heap.size, 0, 0)) ∧ Mr ok ro z (ρ.set n (w.heap.size, 0, 0)) X w0 (T.put (some b) H n) (n + 1) (w.alloc o) :=
  hm.lay (Cx.ext_alloc _ _) (Nat.le_refl _) (by show (w.heap.push _)[w.heap.size]? = _; simp) hb
theorem Mr.set_obj (hm : Mr ok ro z ρ X w0 H n w) {id : Nat} {b b' : Bk} {x : Pc} {o o' : Obj} (hb : T.get H id = some b) (hx : ρ id = some x) (hro : ro ≤ id) (ho : w.heap[x.1]? = some o) (hb' : Br ok ρ z b' x o') :
    Mr ok ro z ρ X w0 (T.put (some b') H id) n { w with heap := w.heap.setIfInBounds x.1 o' } := by
  have hlt := hm.lt hb hx
  refine hm.turn hb hx hro rfl rfl rfl (by simp) (by simp [hlt]) (fun j hj => ?_) hb'
  simp only [Array.getElem?_setIfInBounds]
  rw [if_neg (fun e => hj e.symm)]
theorem run_storeCells_fz (g o : Nat) (t : TypeId) (fz : Nat × Nat) : ∀ (vs : List Value) (i : Nat) (cur : Array Value) (w : World), w.heap[g]? = some (.cells cur t fz) → (∀ j, j < cur.size → ¬ (fz.1 ≤ j ∧ j < fz.2)) → o + i + vs.length ≤ cur.size → (∀ v ∈ vs, v.oneCell' = true) →
    (storeCells ⟨g, o, none⟩ vs i).run P w = .ok () (w.setRow g (cur.toList.take (o + i) ++ vs ++ cur.toList.drop (o + i + vs.length)).toArray)
  | [], i, cur, w, hg, _, _, _ => by
    simp only [storeCells, List.append_nil, List.length_nil, Nat.add_zero, List.take_append_drop, Array.toArray_toList]
    rw [setRow_self w g cur t fz hg]
    rfl
  | v :: rest, i, cur, w, hg, hfz, hl, h1 => by
    have hi : o + i < cur.size := by simp at hl; omega
    have hadd : (⟨g, o, none⟩ : Addr).add i = ⟨g, o + i, none⟩ := by unfold Addr.add; split <;> simp_all
    have hcell : w.cell? ⟨g, o + i, none⟩ = some cur[o + i] := by simp [World.cell?, hg, hi]
    have hfro : w.frozen? ⟨g, o + i, none⟩ = false := by
      have := hfz (o + i) hi
      obtain ⟨lo, hi'⟩ := fz
      simp only [World.frozen?, hg]
      simp only at this
      simpa using this
    have hst : (store ((⟨g, o, none⟩ : Addr).add i) v).run P w = .ok () (w.setRow g (cur.setIfInBounds (o + i) v)) := by
      rw [hadd, run_store P w _ v _ (h1 v (by simp)), hcell]
      simp [hfro, setCell_eq_setRow w g (o + i) cur t fz v hg]
    have ih := run_storeCells_fz g o t fz rest (i + 1) (cur.setIfInBounds (o + i) v) (w.setRow g (cur.setIfInBounds (o + i) v)) (setRow_heap w g cur _ t _ hg) (by simpa using hfz) (by simp at hl ⊢; omega) (fun x hx => h1 x (by simp [hx]))
    simp only [storeCells, Sem.run_bind, hst, Result.andThen_ok, ih, setRow_setRow]
    congr 3
    have e := list_seg_step cur.toList (o + i) v rest (by simp at hl ⊢; omega)
    simpa [Array.toList_setIfInBounds, Nat.add_assoc] using e
/-- cells over a known row -/
theorem run_store_row {m o : Nat} {l us : List Value} {e : TypeId} {fz : Nat × Nat} (h : w.heap[m]? = some (.cells ⟨l⟩ e fz)) (hf : ∀ j, j < l.length → ¬ (fz.1 ≤ j ∧ j < fz.2)) (hle : o + us.length ≤ l.length) (h1 : Fl us) :
    (storeCells ⟨m, o, none⟩ us).run P w = .ok () (w.setRow m ⟨ovwL l o us⟩) ∧ (w.setRow m ⟨ovwL l o us⟩).heap[m]? = some (.cells ⟨ovwL l o us⟩ e fz) ∧ (∀ j, j ≠ m → (w.setRow m ⟨ovwL l o us⟩).heap[j]? = w.heap[j]?) := by
  have hst := run_storeCells_fz (P := P) m o e fz us 0 ⟨l⟩ w h (by simpa using hf) (by simpa using hle) h1
  simp only [Nat.add_zero] at hst
  rw [← Cx.upds_eq us l o hle, upds_ovw l us o hle] at hst
  exact ⟨hst, setRow_heap w m ⟨l⟩ ⟨ovwL l o us⟩ e fz h, fun j hj => setRow_other w m j _ hj⟩
theorem ovw_cut {α : Type} {l us : List α} {B off k : Nat} (h1 : off + us.length ≤ k) (h2 : B + k ≤ l.length) : ((ovwL l (B + off) us).drop B).take k = ovwL ((l.drop B).take k) off us := by
  apply List.ext_getElem?
  intro j
  rw [ovwL_get _ off us j (by simp; omega), List.getElem?_take, List.getElem?_drop, ovwL_get l (B + off) us _ (by omega), List.getElem?_take, List.getElem?_drop]
  by_cases hj : j < k
  · rw [if_pos hj, if_pos hj]
    by_cases hh : off ≤ j ∧ j < off + us.length
    · rw [if_pos hh, if_pos (by omega)]; congr 1; omega
    · rw [if_neg hh, if_neg (by omega)]
  · rw [if_neg hj, if_neg hj, if_neg (by omega)]
/-- cells over an own row -/
theorem Mr.write (hm : Mr ok ro z ρ X w0 H n w) {id t m B N off : Nat} {l us : List V} {cl : Bool} {cs : List Value} (hb : T.get H id = some (.row t l cl)) (hx : ρ id = some (m, B, N)) (hro : ro ≤ id) (hu : Vs ρ z us cs) (hf : Fl cs) (hle : off + us.length ≤ l.length) :
    ∃ w', (storeCells ⟨m, B + off, none⟩ cs).run P w = .ok () w' ∧ Mr ok ro z ρ X w0 (T.put (some (.row t (ovwL l off us) cl)) H id) n w' := by
  obtain ⟨R, e, fz, ho, hN, ⟨hl, hfl⟩, hf1, hf2⟩ := hm.row hb hx
  have hll := hl.len
  have hul := hu.len
  have hBl : l.length = 0 ∨ B + l.length ≤ R.length := by
    simp at hll
    omega
  rcases hBl with h0 | hBl
  · have hu0 : cs = [] := List.length_eq_zero_iff.1 (by omega)
    have hu1 : us = [] := List.length_eq_zero_iff.1 (by omega)
    subst hu0 hu1
    refine ⟨w, by simp [storeCells], ?_⟩
    rw [ovwL_nil]
    exact hm.turn hb hx hro rfl rfl rfl rfl ho (fun _ _ => rfl) (.row hN ⟨hl, hfl⟩ ⟨hf1, hf2⟩)
  · obtain ⟨h1, h2, h3⟩ := run_store_row (P := P) (o := B + off) (us := cs) ho (by rw [hN]; exact hf1) (by omega) hf
    refine ⟨_, h1, hm.turn hb hx hro rfl rfl rfl (by simp [World.setRow]) h2 h3 (.row (by rw [ovwL_len]; exact hN) ?_ ⟨hf1, hf2⟩)⟩
    rw [ovwL_len, ovw_cut (by omega) hBl]
    exact ⟨hl.ovw hu hle, hfl.ovw hf off (by simp; omega)⟩
theorem cAlloc_ok (hE : EnvOk P E z) {t : TypeId} (hm : Mr ok ro z ρ X w0 H n w) (h : cAlloc E t ⟨S, H, n, D⟩ kv kx = some L) : EffOk P ok ro z ρ X w0 a w (.alloc t) kv S D L := by
  simp only [cAlloc, bnd_some] at h
  obtain ⟨ti, hti, h⟩ := h
  rw [ite_eq] at h
  split at h
  · cases h
  rw [frN_eq, newB_eq] at h
  have hT := hE.ty _ _ hti
  obtain ⟨l, h1, h2, hf, h3⟩ := hT.zr
  obtain ⟨g1, g2⟩ := lay_row0 (t := t) (e := t) hm (h3 ρ z) hf true
  obtain ⟨q, hq, hc⟩ := Cx.run_zer (w := w) h1
  refine ⟨_, .pointer (some ⟨w.heap.size, 0, none⟩), _, _, _, _, _, h, Sb.refl _, g1, .p Rho.set_same, g2, fun dst ty pos af g => .inl ?_⟩
  simp [execOp, Instr.alloc, hq, newVar, newRow, hc]
theorem cBox_ok {t : TypeId} {x : Operand} (hx : Ox ρ z S a x) (hm : Mr ok ro z ρ X w0 H n w) (h : cBox t x ⟨S, H, n, D⟩ kv kx = some L) : EffOk P ok ro z ρ X w0 a w (.box t x) kv S D L := by
  simp only [cBox, bnd_some] at h
  obtain ⟨p, hp, h⟩ := h
  rw [ite_eq] at h
  split at h
  · cases h
  rename_i hnt
  rw [frN_eq, newB_eq] at h
  obtain ⟨y, h1, h2, h3⟩ := hx.ev hp
  obtain ⟨cs, c1, c2, c3⟩ := h3.cells
  obtain ⟨g1, g2⟩ := lay_row0 (t := t) (e := t) hm c2 (c3 ((Bool.not_eq_true _).mp hnt)) true
  refine ⟨_, .pointer (some ⟨w.heap.size, 0, none⟩), _, _, _, _, _, h, Sb.refl _, g1, .p Rho.set_same, g2, fun dst ty pos af g => .inl ?_⟩
  simp [execOp, h2, Instr.box, newVar, newRow, c1]
theorem eqFs_eq (es : Nat) (k : Nat) : (eqFs es k).map (fun f => (f.1, f.2.1)) = (List.range k).map fun j => (j * es, es) := by
  have : ∀ k o, (Nat.rec (motive := fun _ => Nat → List (Nat × Nat × Bool)) (fun _ => []) (fun _ ih o => (o, es, false) :: ih (Nat.add o es)) k o).map (fun f => (f.1, f.2.1)) = (List.range k).map fun j => (o + j * es, es) := by
    intro k
    induction k with
    | zero => intro o; rfl
    | succ k ih =>
      intro o
      show (o, es) :: List.map _ (Nat.rec _ _ k (o + es)) = _
      rw [ih (o + es), List.range_succ_eq_map]
      simp only [List.map_cons, List.map_map, Nat.zero_mul, Nat.add_zero, List.cons.injEq, true_and]
      apply List.map_congr_left
      intro j _
      simp only [Function.comp, Nat.succ_mul]
      congr 1; omega
  have h := this k 0
  simpa [eqFs] using h
theorem run_buildSlice {T e es bs len : Nat} {ps : Array (Nat × Operand)} {vs zl : List Value} (hT : Cx.slcO P T = some (e, es, bs)) (hz : Cx.zer P e = some zl) (hzl : zl.length = es) (hbig : len * es ≤ 16777216) (hx : Cx.evs (Sl a) (ps.toList.map (·.2)) = some vs)
    (hok : Cx.okB ((List.range len).map fun j => (j * es, es)) (Cx.repZ zl len).length ((ps.toList.map (·.1)).zip vs) = true) : ∀ dst ty pos af g, (execOp a.eval ⟨dst, .buildSlice T len ps, ty, pos, af, g⟩).run P w =
      .ok (.value (.slice (some ⟨w.heap.size, 0, none⟩) len len)) (w.alloc (.cells ⟨Cx.blds ((List.range len).map fun j => (j * es, es)) (Cx.repZ zl len) ((ps.toList.map (·.1)).zip vs)⟩ e)) := fun dst ty pos af g => by
  have h1 := Cx.zip_parts (Sl_fr a) (xs := ps.toList.map (·.2)) (is := ps.toList.map (·.1)) rfl rfl hx
  obtain ⟨zv, hzv, hzc⟩ := Cx.run_zer (w := w) hz
  obtain ⟨hu, ii, hi, hs1, _⟩ := Cx.slcO_spec hT
  have hs2 : (sizeOf e).run P w = .ok es w := by simp [sizeOf, typeInfo, hi, hs1]
  have hfill := Cx.run_fill ((List.range len).map fun j => (j * es, es)) (fun j => some (j * es, es)) (fun j x hx => by
    rw [List.getElem?_map] at hx
    cases hr : (List.range len)[j]? with
    | none => rw [hr] at hx; simp at hx
    | some q =>
      have hq : j = q := by
        obtain ⟨h1, h2⟩ := List.getElem?_eq_some_iff.1 hr
        simpa using h2
      rw [hr] at hx
      subst hq
      simpa using hx) ((ps.toList.map (·.1)).zip vs) (Cx.repZ zl len) hok
  have hb : ¬ (len * es > 2 ^ 24) := by omega
  have hrep : ((Array.range (len * es)).map ((⟨zl⟩ : Array Value)[· % (⟨zl⟩ : Array Value).size]!)) = ⟨Cx.repZ zl len⟩ := by
    rw [← Cx.zeros_eq zl len, hzl]
  have hnr : ∀ (cs : Array Value) (u : World), (newRow e cs).run P u = .ok ⟨u.heap.size, 0, none⟩ (u.alloc (.cells cs e)) := fun cs u => by simp [newRow]
  by_cases h0 : len * es = 0
  · have hz0 : Cx.repZ zl len = [] := List.length_eq_zero_iff.1 (by rw [Cx.repZ_length, hzl]; exact h0)
    rw [hz0] at hfill
    simp only [execOp, h1, Sem.run_bind, Instr.buildSlice, Cx.run_und hu, Result.andThen_ok, hs2, h0, if_true, Sem.run_pure]
    have hr0 : ∀ f : Nat → Value, (Array.range 0).map f = (⟨[]⟩ : Array Value) := fun f => by simp
    have hb0 : ¬ (0 > 2 ^ 24) := by decide
    simp only [hb0, if_false, hr0, hfill, Sem.run_bind, hnr, Result.andThen_ok, Sem.run_pure, hz0]
  · simp only [execOp, h1, Sem.run_bind, Instr.buildSlice, Cx.run_und hu, Result.andThen_ok, hs2, hb, if_false, h0, hzv, hzc, Sem.run_pure, hrep, hfill, hnr]
/-- what a slice's literal makes -/
theorem bslice_ok (hE : EnvOk P E z) {t len : Nat} {ti te : Ti} {ps : Array (Nat × Operand)} {l : List V} (hx : ∀ p ∈ ps.toList, Ox ρ z S a p.2) (hm : Mr ok ro z ρ X w0 H n w) (hti : T.get E.ty t = some ti) (hk : ti.kd = 3) (hte : T.get E.ty ti.el = some te) (hbig : len * te.sz ≤ 16777216)
    (hl : fill (eqFs te.sz len) S ps.toList (repL te.zr len) = some l) : ∃ ρ' w' y, Rle ρ ρ' ∧ Vr ρ' z (.sl n 0 len len) y ∧ Mr ok ro z ρ' X w0 (T.put (some (.row ti.el l true)) H n) (n + 1) w' ∧ (∀ dst ty pos af g, (execOp a.eval ⟨dst, .buildSlice t len ps, ty, pos, af, g⟩).run P w = .ok (.value y) w') ∧ Cx.Ext Cx.No w w' ∧ (∃ x : Pc, ρ' = ρ.set n x) := by
  have hT := hE.ty _ _ hti
  have hU := hE.ty _ _ hte
  obtain ⟨zl, h1, h2, hzf, h3⟩ := hU.zr
  obtain ⟨vs, k1, k2, k3, k4⟩ := fill_ok hx ((h3 ρ z).rep len) (hzf.rep len) hl
  rw [eqFs_eq] at k2 k3 k4
  obtain ⟨g1, g2⟩ := lay_row0 (t := ti.el) (e := ti.el) hm k3 k4 true
  exact ⟨_, _, .slice (some ⟨w.heap.size, 0, none⟩) len len, g1, .sl (B := 0) Rho.set_same, g2, run_buildSlice (hT.slc hk hU) h1 h2 hbig k1 k2, Cx.ext_alloc _ _, _, rfl⟩
theorem cBuildSlice_ok (hE : EnvOk P E z) {t len : Nat} {ps : Array (Nat × Operand)} (hx : ∀ p ∈ ps.toList, Ox ρ z S a p.2) (hm : Mr ok ro z ρ X w0 H n w) (h : cBuildSlice E t len ps ⟨S, H, n, D⟩ kv kx = some L) : EffOk P ok ro z ρ X w0 a w (.buildSlice t len ps) kv S D L := by
  simp only [cBuildSlice, bnd_some, ite_some, beqN, decide_eq_true_eq, le_some] at h
  obtain ⟨ti, hti, hk, te, hte, hbig, l, hl, h⟩ := h
  rw [frN_eq, newB_eq] at h
  obtain ⟨ρ', w', y, h1, h2, h3, h4, _⟩ := bslice_ok hE hx hm hti hk hte hbig hl
  exact ⟨_, y, w', _, _, ρ', _, h, Sb.refl _, h1, h2, h3, fun dst ty pos af g => .inl (h4 dst ty pos af g)⟩
theorem cStore_ok (hE : EnvOk P E z) (hro : E.ro = ro) {t : TypeId} {x y : Operand} (hx : Ox ρ z S a x) (hy : Ox ρ z S a y) (hm : Mr ok ro z ρ X w0 H n w) (h : cStore E t x y ⟨S, H, n, D⟩ kv kx = some L) : EffOk P ok ro z ρ X w0 a w (.store t x y) kv S D L := by
  simp only [cStore, bnd_some, onP_some, blk_some, onRow_some, ite_some, andB_eq, notB_eq, Bool.and_eq_true, le_some, wOk, lenL_eq] at h
  obtain ⟨p, hp, q, hq, id, off, rfl, b, hb, e, l, cl, rfl, ti, hti, ⟨hnt, hsz⟩, hle, hr, h⟩ := h
  rw [beqN, decide_eq_true_eq] at hsz
  rw [bleN, decide_eq_true_eq, hro] at hr
  rw [setB_eq] at h
  obtain ⟨x', h1, h2, h3⟩ := hx.ev hp
  obtain ⟨y', g1, g2, g3⟩ := hy.ev hq
  obtain ⟨cs, c1, c2, c3⟩ := g3.cells
  cases h3 with
  | p hid =>
    rename_i m B N
    have hle : off + ti.sz ≤ l.length := hle
    obtain ⟨w', k1, k2⟩ := hm.write (P := P) (off := off) hb hid hr c2 (c3 (by simpa using hnt)) (by rw [hsz]; exact hle)
    refine ⟨_, _, w', _, _, ρ, _, h, Sb.refl _, Rle.refl _, Vr.undef, k2, fun dst ty pos af g => .inr ⟨?_, rfl⟩⟩
    have hlen : cs.length = ti.sz := by rw [← c2.len]; exact hsz
    have hsz' := Cx.run_szO (w := w) (hE.ty _ _ hti).sz
    simp [execOp, h2, g2, Instr.storeAt, Instr.sureAddr, storeVar, hsz', c1, hlen, k1]
theorem cMakeMap_ok {t : TypeId} {r : Option Operand} (hm : Mr ok ro z ρ X w0 H n w) (h : cMakeMap r ⟨S, H, n, D⟩ kv kx = some L) : EffOk P ok ro z ρ X w0 a w (.makeMap t r) kv S D L := by
  simp only [cMakeMap] at h
  rw [ite_eq] at h
  split at h
  · cases h
  rename_i hr
  have hr : r = none := by cases r <;> simp_all
  subst hr
  rw [frN_eq, newB_eq] at h
  obtain ⟨g1, g2⟩ := lay_obj (b := .map [] 0) (o := .map #[] 0) hm (.map .nil)
  refine ⟨_, .map (some w.heap.size), _, _, _, _, _, h, Sb.refl _, g1, .m Rho.set_same, g2, fun dst ty pos af g => .inl ?_⟩
  simp [execOp, Instr.makeMap]
theorem cMakeSlice_ok (hE : EnvOk P E z) {t : TypeId} {x y : Operand} (hx : Ox ρ z S a x) (hy : Ox ρ z S a y) (hm : Mr ok ro z ρ X w0 H n w) (h : cMakeSlice E t x y ⟨S, H, n, D⟩ kv kx = some L) : EffOk P ok ro z ρ X w0 a w (.makeSlice t x y) kv S D L := by
  simp only [cMakeSlice, bnd_some, idxN_some, ite_some, andB_eq, beqN, Bool.and_eq_true, decide_eq_true_eq, le_some, frN_eq, newB_eq] at h
  obtain ⟨p, hp, q, hq, k, l, rfl, k', c, rfl, ti, hti, hk, te, hte, hlc, hc, hb, h⟩ := h
  obtain ⟨x', h1, h2, h3⟩ := hx.ev hp
  obtain ⟨y', g1, g2, g3⟩ := hy.ev hq
  cases h3; cases g3
  have hT := hE.ty _ _ hti
  have hU := hE.ty _ _ hte
  obtain ⟨zl, e1, e2, hzf, e3⟩ := hU.zr
  obtain ⟨f1, f2⟩ := lay_row0 (t := ti.el) (e := ti.el) hm ((e3 ρ z).rep c) (hzf.rep c) true
  have hb : c * te.bt ≤ 1099511627776 := hb
  refine ⟨_, .slice (some ⟨w.heap.size, 0, none⟩) l c, _, _, _, _, _, h, Sb.refl _, f1, .sl (B := 0) Rho.set_same, f2, fun dst ty pos af g => .inl ?_⟩
  have hrun := Cx.run_mk (u := w) (k := k) (k' := k') (l := l) (c := c) (hT.slc hk hU) e1 e2 hlc (by omega) (by omega)
  simp only [execOp, h2, g2, Sem.run_bind, hrun, Result.andThen_ok, Sem.run_pure]
  rfl
end
end Go.Ev

namespace Go.Ev
set_option linter.unusedVariables false
set_option linter.unusedSimpArgs false
set_option linter.constructorNameAsVariable false
open Go
section
variable {P : Program} {E : Env} {ok : Nat → Nat → Code → Code → List Nat → Prop} {z : Int} {ρ : Rho} {X : Xz} {w0 w : World} {H : T Bk} {n ro : Nat} {S : T V} {a : Act} {v : V} {D : List Df} {kv : Kv} {kx : Kx} {L : List Rs}
theorem Mr.congr {H' : T Bk} (h : Mr ok ro z ρ X w0 H n w) (e : ∀ i, T.get H' i = T.get H i) : Mr ok ro z ρ X w0 H' n w :=
  ⟨h.ext, fun i b x hb => h.own i b x ((e i).symm.trans hb), fun i b x hb => h.fr i b x ((e i).symm.trans hb), fun i j b c x y h1 h2 => h.inj i j b c x y ((e i).symm.trans h1) ((e j).symm.trans h2), h.new, fun i b hb => h.dom i b ((e i).symm.trans hb), h.ron, h.pz⟩
theorem put_same {id : Nat} {b : Bk} (hb : T.get H id = some b) (i : Nat) : T.get (T.put (some b) H id) i = T.get H i := by
  rw [T.get_put]
  by_cases hi : i = id
  · rw [if_pos hi, hi, hb]
  · rw [if_neg hi]
theorem Ers.len {l : List Me} {m : List MapEntry} (h : Ers ρ z l m) : l.length = m.length := by
  induction h with
  | nil => rfl
  | cons _ _ ih => simp [ih]
theorem Ers.set {l : List Me} {m : List MapEntry} (h : Ers ρ z l m) {e : Me} {x : MapEntry} (hx : Er ρ z e x) : ∀ j, Ers ρ z (l.set j e) (m.set j x) := by
  induction h with
  | nil => intro j; exact .nil
  | cons h1 t ih => intro j; cases j with
    | zero => exact .cons hx t
    | succ j => exact .cons h1 (ih j)
theorem Ers.app {l l' : List Me} {m m' : List MapEntry} (h : Ers ρ z l m) (g : Ers ρ z l' m') : Ers ρ z (l ++ l') (m ++ m') := by
  induction h with
  | nil => exact g
  | cons h _ ih => exact .cons h ih
theorem Ers.erase {l : List Me} {m : List MapEntry} (h : Ers ρ z l m) : ∀ j, Ers ρ z (l.eraseIdx j) (m.eraseIdx j) := by
  induction h with
  | nil => intro j; exact .nil
  | cons h1 t ih => intro j; cases j with
    | zero => exact t
    | succ j => exact .cons h1 (ih j)
theorem modify_set {es : List MapEntry} {j : Nat} {e : MapEntry} (f : MapEntry → MapEntry) (h : es[j]? = some e) : (⟨es⟩ : Array MapEntry).modify j f = ⟨es.set j (f e)⟩ := by
  apply Array.ext'
  apply List.ext_getElem?
  intro i
  rw [Array.getElem?_toList, Array.getElem?_modify, List.getElem?_set]
  by_cases hi : j = i
  · subst hi
    rw [if_pos rfl, if_pos rfl]
    have hlt := (List.getElem?_eq_some_iff.1 h).1
    rw [if_pos hlt]
    simp [h]
  · rw [if_neg hi, if_neg hi]; simp
theorem cMapUpdate_ok (hE : EnvOk P E z) (hro : E.ro = ro) {t : TypeId} {x k y : Operand} (hx : Ox ρ z S a x) (hk : Ox ρ z S a k) (hy : Ox ρ z S a y) (hm : Mr ok ro z ρ X w0 H n w) (h : cMapUpdate E t x k y ⟨S, H, n, D⟩ kv kx = some L) :
    EffOk P ok ro z ρ X w0 a w (.mapUpdate t x k y) kv S D L ∧ EffOk P ok ro z ρ X w0 a w (.insert t x k y) kv S D L := by
  simp only [cMapUpdate, bnd_some, ite_some, beqN, decide_eq_true_eq, onM_some, blk_some, onMap_some, wOk, bleN, reduceCtorEq, and_false, or_false] at h
  obtain ⟨p, hp, q, hq, r, hr, ti, hti, hkd, tk, htk, id, rfl, b, hb, es, ck, rfl, fr, hfr, hle, h⟩ := h
  rw [hro] at hle
  obtain ⟨x', h1, h2, h3⟩ := hx.ev hp
  obtain ⟨k', g1, g2, g3⟩ := hk.ev hq
  obtain ⟨y', f1, f2, f3⟩ := hy.ev hr
  have hT := hE.ty _ _ hti
  have hK := hE.ty _ _ htk
  have hun := run_underlying (P := P) (hT.k4 hkd) w
  cases h3 with
  | m hid =>
    rename_i m B N
    obtain ⟨o, ho, hbr⟩ := hm.own _ _ _ hb hid
    cases hbr with
    | map hes =>
      rename_i es'
      obtain ⟨hkv, c1, r', c2, c3⟩ := findKO_ok (w := w) hK g3 hes hfr
      have c1 := c1 false 9998
      cases fr with
      | none =>
        replace h : kv undefV (setB ⟨S, H, n, D⟩ id (.map (appL es [⟨q, r, ck⟩]) (ck + 1))) = some L := h
        rw [setB_eq, appL_eq] at h
        have c2 : r' = none := c2
        subst c2
        have hm' := hm.set_obj (b' := .map (es ++ [⟨q, r, ck⟩]) (ck + 1)) (o' := .map ((⟨es'⟩ : Array MapEntry).push { key := k', val := y', born := ck }) (ck + 1)) hb hid hle ho (by
          have e : (⟨es'⟩ : Array MapEntry).push { key := k', val := y', born := ck } = ⟨es' ++ [{ key := k', val := y', born := ck }]⟩ := by simp
          rw [e]
          exact .map (hes.app (.cons ⟨g3, f3, rfl⟩ .nil)))
        have hso := Cx.run_setObj (P := P) (o' := .map ((⟨es'⟩ : Array MapEntry).push { key := k', val := y', born := ck }) (ck + 1)) ho rfl
        have hrun : (Instr.mapUpdate t (.map (some m)) k' y').run P w = .ok () { w with heap := w.heap.setIfInBounds m (.map ((⟨es'⟩ : Array MapEntry).push { key := k', val := y', born := ck }) (ck + 1)) } := by
          unfold Instr.mapUpdate
          simp only [Sem.run_bind, hun, Result.andThen_ok, Cx.run_getObj ho rfl, c1, c3, hso]
        exact ⟨⟨_, _, _, _, _, ρ, _, h, Sb.refl _, Rle.refl _, Vr.undef, hm', fun dst ty pos af g => .inr ⟨by simp only [execOp, h2, g2, f2, Sem.run_bind, hrun, Result.andThen_ok, Sem.run_pure], rfl⟩⟩,
          ⟨_, _, _, _, _, ρ, _, h, Sb.refl _, Rle.refl _, Vr.undef, hm', fun dst ty pos af g => .inr ⟨by simp only [execOp, h2, g2, f2, Sem.run_bind, hrun, Result.andThen_ok, Sem.run_pure], rfl⟩⟩⟩
      | some je =>
        obtain ⟨j, e⟩ := je
        replace h : kv undefV (setB ⟨S, H, n, D⟩ id (.map (updL ⟨q, r, e.born⟩ es j) ck)) = some L := h
        rw [setB_eq, updL_eq] at h
        obtain ⟨e', _, d1, d2, d3, d4, d5⟩ := c2
        subst d4
        simp only [Nat.sub_zero] at d1 d2
        have hmod := modify_set (fun e => { e with key := k', val := y' }) d2
        have hm' := hm.set_obj (b' := .map (es.set j ⟨q, r, e.born⟩) ck) (o' := .map ((⟨es'⟩ : Array MapEntry).modify j fun e => { e with key := k', val := y' }) ck) hb hid hle ho (by
          rw [hmod]
          exact .map (hes.set (e := ⟨q, r, e.born⟩) (x := { key := k', val := y', born := e'.born }) ⟨g3, f3, d3.born⟩ j))
        have hso := Cx.run_setObj (P := P) (o' := .map ((⟨es'⟩ : Array MapEntry).modify j fun e => { e with key := k', val := y' }) ck) ho rfl
        have hst := hkv.stays (P := P) (w := w)
        have hget : ((⟨es'⟩ : Array MapEntry)[j]?).map (·.key) = some k' := by simp [d2, d5]
        have hrun : (Instr.mapUpdate t (.map (some m)) k' y').run P w = .ok () { w with heap := w.heap.setIfInBounds m (.map ((⟨es'⟩ : Array MapEntry).modify j fun e => { e with key := k', val := y' }) ck) } := by
          unfold Instr.mapUpdate
          simp only [Sem.run_bind, hun, Result.andThen_ok, Cx.run_getObj ho rfl, c1, c3, hget, Option.getD_some, hst, hso]
        exact ⟨⟨_, _, _, _, _, ρ, _, h, Sb.refl _, Rle.refl _, Vr.undef, hm', fun dst ty pos af g => .inr ⟨by simp only [execOp, h2, g2, f2, Sem.run_bind, hrun, Result.andThen_ok, Sem.run_pure], rfl⟩⟩,
          ⟨_, _, _, _, _, ρ, _, h, Sb.refl _, Rle.refl _, Vr.undef, hm', fun dst ty pos af g => .inr ⟨by simp only [execOp, h2, g2, f2, Sem.run_bind, hrun, Result.andThen_ok, Sem.run_pure], rfl⟩⟩⟩
theorem cRange_ok (hE : EnvOk P E z) {t : TypeId} {x : Operand} (hx : Ox ρ z S a x) (hm : Mr ok ro z ρ X w0 H n w) (h : cRange E t x ⟨S, H, n, D⟩ kv kx = some L) : EffOk P ok ro z ρ X w0 a w (.range t x) kv S D L := by
  simp only [cRange, bnd_some, ite_some, beqN, decide_eq_true_eq, frN_eq, onM_some, blk_some, onMap_some] at h
  obtain ⟨p, hp, ti, hti, hk, h⟩ := h
  obtain ⟨x', h1, h2, h3⟩ := hx.ev hp
  have hun := run_underlying (P := P) ((hE.ty _ _ hti).k4 hk) w
  rcases h with ⟨id, rfl, b, hb, es, ck, rfl, h⟩ | ⟨rfl, h⟩
  · cases h3 with
    | m hid =>
      rename_i m B N
      obtain ⟨o, ho, hbr⟩ := hm.own _ _ _ hb hid
      cases hbr with
      | map hes =>
        rename_i es'
        have hle := Rho.set_le (x := (w.heap.size, 0, 0)) (hm.new n (Nat.le_refl _))
        obtain ⟨g1, g2⟩ := lay_obj (b := .iter (some id) ck [] ck) (o := .mapIter (some m) ck #[] ck) hm (.iter (hle _ _ hid))
        rw [newB_eq] at h
        refine ⟨_, .pointer (some ⟨w.heap.size, 0, none⟩), _, _, _, _, _, h, Sb.refl _, g1, .p Rho.set_same, g2, fun dst ty pos af g => .inl ?_⟩
        simp [execOp, h2, Instr.range, hun, Cx.run_getObj ho rfl]
  · cases h3
    obtain ⟨g1, g2⟩ := lay_obj (b := .iter none 0 [] 0) (o := .mapIter none 0 #[] 0) hm .iter0
    rw [newB_eq] at h
    refine ⟨_, .pointer (some ⟨w.heap.size, 0, none⟩), _, _, _, _, _, h, Sb.refl _, g1, .p Rho.set_same, g2, fun dst ty pos af g => .inl ?_⟩
    simp [execOp, h2, Instr.range, hun]
theorem memN_eq (x : Nat) : ∀ l : List Nat, memN x l = l.contains x
  | [] => rfl
  | y :: r => by
    have ih := memN_eq x r
    show ite_ (Nat.beq x y) true (memN x r) = _
    rw [ite_eq, ih, beqN]
    by_cases h : x = y <;> simp [h]
theorem leftE_ok {seen : List Nat} {es : List Me} {es' : List MapEntry} (h : Ers ρ z es es') : Ers ρ z (leftE seen es) (es'.filter fun e => !seen.contains e.born) := by
  induction h with
  | nil => exact .nil
  | cons h1 t ih =>
    rename_i e x l m
    have e1 : leftE seen (e :: l) = ite_ (memN e.born seen) (leftE seen l) (e :: leftE seen l) := rfl
    rw [e1, memN_eq, ite_eq, List.filter_cons, h1.born]
    by_cases hc : seen.contains e.born = true
    · rw [if_pos hc, if_neg (by simpa using hc)]; exact ih
    · rw [if_neg hc, if_pos (by simpa using hc)]; exact .cons h1 ih
theorem allOld_ok {since : Nat} {es : List Me} {es' : List MapEntry} (h : Ers ρ z es es') (ha : allOld since es = true) : ∀ e ∈ es', e.born < since := by
  induction h with
  | nil => intro e he; cases he
  | cons h1 t ih =>
    rename_i e x l m
    have e1 : allOld since (e :: l) = ite_ (Nat.ble (Nat.succ e.born) since) (allOld since l) false := rfl
    rw [e1, ite_eq, bleN] at ha
    split at ha
    · rename_i hb
      rw [decide_eq_true_eq] at hb
      intro e' he'
      rcases List.mem_cons.1 he' with rfl | he'
      · rw [h1.born]; exact hb
      · exact ih ha e' he'
    · cases ha
theorem both_some {p q : R} {L : List Rs} (h : both p q = some L) : ∃ A B, p = some A ∧ q = some B ∧ Sb A L ∧ Sb B L := by
  simp only [both, bnd_some] at h
  obtain ⟨A, hA, B, hB, h⟩ := h
  cases h
  rw [appL_eq]
  exact ⟨A, B, hA, hB, fun r hr => List.mem_append.2 (.inl hr), fun r hr => List.mem_append.2 (.inr hr)⟩
theorem anyE_some {f : Me → R} : ∀ {es : List Me} {L : List Rs}, anyE f es = some L → ∀ e ∈ es, ∃ L', f e = some L' ∧ Sb L' L
  | [], L, h => by cases h
  | [e], L, h => fun e' he => by
    rw [List.mem_singleton] at he
    subst he
    exact ⟨L, h, Sb.refl _⟩
  | e :: e2 :: r, L, h => fun e' he => by
    have h : both (f e) (anyE f (e2 :: r)) = some L := h
    obtain ⟨A, B, hA, hB, s1, s2⟩ := both_some h
    rcases List.mem_cons.1 he with rfl | he
    · exact ⟨A, hA, s1⟩
    · obtain ⟨L', h1, h2⟩ := anyE_some hB e' he
      exact ⟨L', h1, h2.trans s2⟩
theorem Ers.mem {l : List Me} {m : List MapEntry} (h : Ers ρ z l m) {j : Nat} {x : MapEntry} (hx : m[j]? = some x) : ∃ e, e ∈ l ∧ Er ρ z e x := by
  induction h generalizing j with
  | nil => simp at hx
  | cons h1 t ih => cases j with
    | zero => simp at hx; subst hx; exact ⟨_, by simp, h1⟩
    | succ j =>
      obtain ⟨e, g1, g2⟩ := ih (by simpa using hx)
      exact ⟨e, by simp [g1], g2⟩
theorem cNext_ok (hro : E.ro = ro) {x : Operand} {isS : Bool} (hx : Ox ρ z S a x) (hm : Mr ok ro z ρ X w0 H n w) (h : cNext E x isS ⟨S, H, n, D⟩ kv kx = some L) : EffOk P ok ro z ρ X w0 a w (.next x isS) kv S D L := by
  simp only [cNext, bnd_some] at h
  obtain ⟨p, hp, h⟩ := h
  rw [ite_eq] at h
  split at h
  · cases h
  rename_i hS
  have hS : isS = false := by simpa using hS
  subst hS
  obtain ⟨id, off, rfl, h⟩ := onP_some.1 h
  obtain ⟨hoff, h⟩ := ite_some.1 h
  rw [beqN, decide_eq_true_eq] at hoff
  subst hoff
  obtain ⟨b, hb, h⟩ := blk_some.1 h
  obtain ⟨m, since, seen, stepped, rfl, h⟩ := onIter_some.1 h
  obtain ⟨x', h1, h2, h3⟩ := hx.ev hp
  cases h3 with
  | p hid =>
    rename_i mi B N
    obtain ⟨o, ho, hbr⟩ := hm.own _ _ _ hb hid
    cases m with
    | none =>
      replace h : kv (.t [.b false]) ⟨S, H, n, D⟩ = some L := h
      cases hbr
      refine ⟨_, .tuple #[.bool false], _, _, _, ρ, _, h, Sb.refl _, Rle.refl _, .t' (.one .b), hm, fun dst ty pos af g => .inl ?_⟩
      simp [execOp, h2, Instr.next, Cx.run_getObj ho rfl]
    | some mid =>
      replace h : blk H mid (fun mb => mb.onMap fun es ck => ite_ (andB (allOld since es) (andB (Nat.beq ck since) (Nat.beq stepped since))) (List.casesOn (motive := fun _ => R) (leftE seen es) (kv (.t [.b false]) ⟨S, H, n, D⟩) fun _ _ => wOk E id (anyE (fun e => kv (.t [.b true, e.key, e.val]) (setB ⟨S, H, n, D⟩ id (.iter (some mid) since (appL seen [e.born]) ck))) (leftE seen es))) none) = some L := h
      simp only [blk_some, onMap_some, ite_some, andB_eq, beqN, Bool.and_eq_true, decide_eq_true_eq] at h
      obtain ⟨mb, hmb, es, ck, rfl, ⟨hold, rfl, rfl⟩, h⟩ := h
      cases hbr with
      | iter hmid =>
        rename_i mm BB NN
        obtain ⟨o2, ho2, hbr2⟩ := hm.own _ _ _ hmb hmid
        cases hbr2 with
        | map hes =>
          rename_i es'
          have hborn := allOld_ok hes hold
          have hleft := leftE_ok (seen := seen) hes
          have hlf : (leftOf ⟨es'⟩ ⟨seen⟩).toList = es'.filter fun e => !seen.contains e.born := by
            unfold leftOf; rw [Array.toList_filter]; simp
          rw [← hlf] at hleft
          have hty : ∀ ty, Instr.next (.pointer (some ⟨mi, 0, none⟩)) false ty = Instr.next (.pointer (some ⟨mi, 0, none⟩)) false 0 := fun ty => rfl
          rcases run_next_at (P := P) w 0 mi mm stepped stepped ⟨seen⟩ ⟨es'⟩ stepped ho ho2 hborn (Nat.le_refl _) with ⟨h0, hr⟩ | ⟨e, he, w1, hw1, hr⟩
          · have hl0 : leftE seen es = [] := List.length_eq_zero_iff.1 (by rw [hleft.len]; simpa using h0)
            rw [hl0] at h
            replace h : kv (.t [.b false]) ⟨S, H, n, D⟩ = some L := h
            refine ⟨_, .tuple #[.bool false], _, _, _, ρ, _, h, Sb.refl _, Rle.refl _, .t' (.one .b), hm, fun dst ty pos af g => .inl ?_⟩
            simp only [execOp, h2, Sem.run_bind, Result.andThen_ok, Nat.add_zero, hty, hr, Sem.run_pure]
          · obtain ⟨je, hje⟩ := List.mem_iff_getElem?.1 he
            obtain ⟨e0, he0, her⟩ := hleft.mem hje
            obtain ⟨e1, r1, hcons⟩ : ∃ e1 r1, leftE seen es = e1 :: r1 := by
              cases hq : leftE seen es with
              | nil => rw [hq] at he0; cases he0
              | cons e1 r1 => exact ⟨_, _, rfl⟩
            rw [hcons] at h he0
            replace h : wOk E id (anyE (fun e => kv (.t [.b true, e.key, e.val]) (setB ⟨S, H, n, D⟩ id (.iter (some mid) stepped (appL seen [e.born]) stepped))) (e1 :: r1)) = some L := h
            simp only [wOk, ite_some, bleN, decide_eq_true_eq] at h
            obtain ⟨hle, h⟩ := h
            rw [hro] at hle
            obtain ⟨L', g1, g2⟩ := anyE_some h e0 he0
            rw [setB_eq, appL_eq] at g1
            have hm1 : Mr ok ro z ρ X w0 H n w1 := by
              rcases hw1 with rfl | rfl
              · exact hm
              · exact hm.to (Cx.Ext.drew w)
            have ho1 : w1.heap[mi]? = some (.mapIter (some mm) stepped ⟨seen⟩ stepped) := by rcases hw1 with rfl | rfl <;> exact ho
            have hpush : (⟨seen⟩ : Array Nat).push e.born = ⟨seen ++ [e0.born]⟩ := by rw [her.born]; simp
            rw [hpush] at hr
            have hm2 := hm1.set_obj (b' := .iter (some mid) stepped (seen ++ [e0.born]) stepped) (o' := .mapIter (some mm) stepped ⟨seen ++ [e0.born]⟩ stepped) hb hid hle ho1 (.iter hmid)
            refine ⟨_, .tuple #[.bool true, e.key, e.val], _, _, _, ρ, _, g1, g2, Rle.refl _, .t' (.cons .b (.cons her.key (.one her.val))), hm2, fun dst ty pos af g => .inl ?_⟩
            simp only [execOp, h2, Sem.run_bind, Result.andThen_ok, Nat.add_zero, hty, hr, Sem.run_pure]
            rfl
end
end Go.Ev

namespace Go.Ev
set_option linter.unusedVariables false
set_option linter.unusedSimpArgs false
set_option linter.constructorNameAsVariable false
open Go
/-- A builtin that acts. -/
def BiOk (P : Program) (ok : Nat → Nat → Code → Code → List Nat → Prop) (ro : Nat) (z : Int) (ρ : Rho) (X : Xz) (w0 w : World) (f : TypeId → Sem Value) (kv : Kv) (S : T V) (D : List Df) (L : List Rs) : Prop :=
  ∃ v y w' H' n' ρ' L', kv v ⟨S, H', n', D⟩ = some L' ∧ Sb L' L ∧ Rle ρ ρ' ∧ Vr ρ' z v y ∧ Mr ok ro z ρ' X w0 H' n' w' ∧ ∀ ty, (f ty).run P w = .ok y w'
section
variable {P : Program} {E : Env} {ok : Nat → Nat → Code → Code → List Nat → Prop} {z : Int} {ρ : Rho} {X : Xz} {w0 w : World} {H : T Bk} {n ro : Nat} {S : T V} {a : Act} {v : V} {D : List Df} {kv : Kv} {kx : Kx} {L : List Rs}
theorem BiOk.append {x y : Operand} {ts : Array TypeId} (h : BiOk P ok ro z ρ X w0 w (fun ty => Builtin.append_ ts ty #[a.eval x, a.eval y]) kv S D L) : EffOk P ok ro z ρ X w0 a w (.call ⟨.builtin .append, #[x, y], ts⟩) kv S D L := by
  obtain ⟨v, u, w', H', n', ρ', L', h1, h2, h3, h4, h5, h6⟩ := h
  refine ⟨v, u, w', H', n', ρ', L', h1, h2, h3, h4, h5, fun dst ty pos af g => .inl ?_⟩
  simp [execOp, resolve, invoke, builtin, h6]
theorem BiOk.copy {x y : Operand} {ts : Array TypeId} (h : BiOk P ok ro z ρ X w0 w (fun ty => Builtin.copy_ ts ty #[a.eval x, a.eval y]) kv S D L) : EffOk P ok ro z ρ X w0 a w (.call ⟨.builtin .copy, #[x, y], ts⟩) kv S D L := by
  obtain ⟨v, u, w', H', n', ρ', L', h1, h2, h3, h4, h5, h6⟩ := h
  refine ⟨v, u, w', H', n', ρ', L', h1, h2, h3, h4, h5, fun dst ty pos af g => .inl ?_⟩
  simp [execOp, resolve, invoke, builtin, h6]
theorem BiOk.clear {x : Operand} {ts : Array TypeId} (h : BiOk P ok ro z ρ X w0 w (fun ty => Builtin.clear_ ts ty #[a.eval x]) kv S D L) : EffOk P ok ro z ρ X w0 a w (.call ⟨.builtin .clear, #[x], ts⟩) kv S D L := by
  obtain ⟨v, u, w', H', n', ρ', L', h1, h2, h3, h4, h5, h6⟩ := h
  refine ⟨v, u, w', H', n', ρ', L', h1, h2, h3, h4, h5, fun dst ty pos af g => .inl ?_⟩
  simp [execOp, resolve, invoke, builtin, h6]
theorem BiOk.delete {x y : Operand} {ts : Array TypeId} (h : BiOk P ok ro z ρ X w0 w (fun ty => Builtin.delete_ ts ty #[a.eval x, a.eval y]) kv S D L) : EffOk P ok ro z ρ X w0 a w (.call ⟨.builtin .delete, #[x, y], ts⟩) kv S D L := by
  obtain ⟨v, u, w', H', n', ρ', L', h1, h2, h3, h4, h5, h6⟩ := h
  refine ⟨v, u, w', H', n', ρ', L', h1, h2, h3, h4, h5, fun dst ty pos af g => .inl ?_⟩
  simp [execOp, resolve, invoke, builtin, h6]
theorem wrRow_some {β : Type} {id off m : Nat} {cs : List V} {k : St → Option β} {y : β} : wrRow E ⟨S, H, m, D⟩ id off cs k = some y ↔ ∃ t l cl, T.get H id = some (.row t l cl) ∧ off + cs.length ≤ l.length ∧ E.ro ≤ id ∧ k ⟨S, T.put (some (.row t (ovwL l off cs) cl)) H id, m, D⟩ = some y := by
  unfold wrRow wOk
  simp only [blk_some, onRow_some, le_some, ite_some, bleN, decide_eq_true_eq, lenL_eq, setB_eq]
  constructor
  · rintro ⟨b, hb, t, l, cl, rfl, h1, h2, h3⟩; exact ⟨t, l, cl, hb, h1, h2, h3⟩
  · rintro ⟨t, l, cl, hb, h1, h2, h3⟩; exact ⟨_, hb, t, l, cl, rfl, h1, h2, h3⟩
theorem cDelete_ok (hE : EnvOk P E z) (hro : E.ro = ro) {ts : Array TypeId} {u k : V} {x y : Value} (hx : Vr ρ z u x) (hy : Vr ρ z k y) (hm : Mr ok ro z ρ X w0 H n w) (h : cDelete E ts u k ⟨S, H, n, D⟩ kv kx = some L) : BiOk P ok ro z ρ X w0 w (fun ty => Builtin.delete_ ts ty #[x, y]) kv S D L := by
  simp only [cDelete, bnd_some, nthL_eq, ite_some, beqN, decide_eq_true_eq, onM_some, blk_some, onMap_some, wOk, bleN, reduceCtorEq, and_false, or_false] at h
  obtain ⟨t, ht, ti, hti, hkd, tk, htk, id, rfl, b, hb, es, ck, rfl, fr, hfr, hle, h⟩ := h
  have ht' : ts[0]? = some t := by simpa using ht
  rw [hro] at hle
  have hT := hE.ty _ _ hti
  have hK := hE.ty _ _ htk
  have hun := run_underlying (P := P) (hT.k4 hkd) w
  cases hx with
  | m hid =>
    rename_i m B N
    obtain ⟨o, ho, hbr⟩ := hm.own _ _ _ hb hid
    cases hbr with
    | map hes =>
      rename_i es'
      obtain ⟨hkv, c1, r', c2, c3⟩ := findKO_ok (w := w) hK hy hes hfr
      have c1 := c1 (⟨es'⟩ : Array MapEntry).isEmpty 9998
      cases fr with
      | none =>
        replace h : kv undefV ⟨S, H, n, D⟩ = some L := h
        have c2 : r' = none := c2
        subst c2
        have hso := Cx.run_setObj (P := P) (o' := .map (⟨es'⟩ : Array MapEntry) ck) ho rfl
        have hm' := (hm.set_obj (b' := .map es ck) (o' := .map ⟨es'⟩ ck) hb hid hle ho (.map hes))
        refine ⟨_, undef, _, _, _, ρ, _, h, Sb.refl _, Rle.refl _, Vr.undef, hm'.congr fun i => (put_same hb i).symm, fun ty => ?_⟩
        unfold Builtin.delete_
        simp only [ht', List.getElem?_toArray, List.getElem?_cons_zero, List.getElem?_cons_succ, Sem.run_bind, hun, Result.andThen_ok, Cx.run_getObj ho rfl, c1, c3, hso, Sem.run_pure]
        rfl
      | some je =>
        obtain ⟨j, e⟩ := je
        replace h : kv undefV (setB ⟨S, H, n, D⟩ id (.map (delL es j) ck)) = some L := h
        rw [setB_eq, delL_eq] at h
        obtain ⟨e', _, d1, d2, d3, d4, d5⟩ := c2
        subst d4
        simp only [Nat.sub_zero] at d1 d2
        have her : (⟨es'⟩ : Array MapEntry).eraseIdxIfInBounds j = ⟨es'.eraseIdx j⟩ := by
          apply Array.ext'; simp
        have hso := Cx.run_setObj (P := P) (o' := .map ((⟨es'⟩ : Array MapEntry).eraseIdxIfInBounds j) ck) ho rfl
        have hm' := hm.set_obj (b' := .map (es.eraseIdx j) ck) (o' := .map ((⟨es'⟩ : Array MapEntry).eraseIdxIfInBounds j) ck) hb hid hle ho (by rw [her]; exact .map (hes.erase j))
        refine ⟨_, undef, _, _, _, ρ, _, h, Sb.refl _, Rle.refl _, Vr.undef, hm', fun ty => ?_⟩
        unfold Builtin.delete_
        simp only [ht', List.getElem?_toArray, List.getElem?_cons_zero, List.getElem?_cons_succ, Sem.run_bind, hun, Result.andThen_ok, Cx.run_getObj ho rfl, c1, c3, hso, Sem.run_pure]
        rfl
theorem cClear_ok (hE : EnvOk P E z) (hro : E.ro = ro) {ts : Array TypeId} {u : V} {x : Value} (hx : Vr ρ z u x) (hm : Mr ok ro z ρ X w0 H n w) (h : cClear E ts u ⟨S, H, n, D⟩ kv kx = some L) : BiOk P ok ro z ρ X w0 w (fun ty => Builtin.clear_ ts ty #[x]) kv S D L := by
  simp only [cClear, bnd_some, nthL_eq] at h
  obtain ⟨t, ht, ti, hti, h⟩ := h
  have ht' : ts[0]? = some t := by simpa using ht
  have hT := hE.ty _ _ hti
  rw [ite_eq] at h
  split at h
  · rename_i hk
    rw [beqN, decide_eq_true_eq] at hk
    have hun := run_underlying (P := P) (hT.k3 hk) w
    simp only [bnd_some] at h
    obtain ⟨te, hte, h⟩ := h
    have hU := hE.ty _ _ hte
    obtain ⟨zl, e1, e2, hzf, e3⟩ := hU.zr
    have none_ : ∀ p c, x = .slice p 0 c → ∀ ty, (Builtin.clear_ ts ty #[x]).run P w = .ok undef w := fun p c e ty => by
      subst e
      unfold Builtin.clear_
      cases p <;> simp [ht', hun, undef]
    replace h := lenS_some hx h
    rcases h with ⟨p, len, cap, rfl, h⟩ | ⟨s, rfl, h⟩
    · rw [ite_eq] at h
      split at h
      · rename_i h0
        rw [beqN, decide_eq_true_eq] at h0
        subst h0
        simp only [onS_some, reduceCtorEq, and_false, exists_false, or_false] at h
        have h : kv undefV ⟨S, H, n, D⟩ = some L := by
          rcases h with ⟨_, _, _, _, _, h⟩ | ⟨_, _, _, _, _, h⟩ | ⟨_, h⟩ <;> exact h
        exact ⟨_, undef, _, _, _, ρ, _, h, Sb.refl _, Rle.refl _, Vr.undef, hm, none_ _ _ rfl⟩
      · rename_i h0
        rw [beqN, decide_eq_true_eq] at h0
        have key : ∀ id off m B N, p = some ⟨m, B + off, none⟩ → ρ id = some (m, B, N) → wrRow E ⟨S, H, n, D⟩ id off (repL te.zr len) (fun st => kv undefV st) = some L → BiOk P ok ro z ρ X w0 w (fun ty => Builtin.clear_ ts ty #[.slice p len cap]) kv S D L := by
          intro id off m B N hp hid h
          obtain ⟨t', l, cl, hb, hle, hr, h⟩ := wrRow_some.1 h
          rw [hro] at hr
          obtain ⟨w', k1, k2⟩ := hm.write (P := P) hb hid hr ((e3 ρ z).rep len) (hzf.rep len) hle
          refine ⟨_, undef, w', _, _, ρ, _, h, Sb.refl _, Rle.refl _, Vr.undef, k2, fun ty => ?_⟩
          obtain ⟨q, hq, hc⟩ := Cx.run_zer (w := w) e1
          have hz := Cx.zeros_eq zl len
          subst hp
          obtain ⟨len, rfl⟩ : ∃ l', len = l' + 1 := ⟨len - 1, by omega⟩
          unfold Builtin.clear_
          simp [ht', hun, hq, hc, Cx.zeroCells_eq, k1, undef]
        simp only [onS_some, reduceCtorEq, and_false, exists_false, or_false] at h
        rcases h with ⟨id, off, _, _, rfl, h⟩ | ⟨id, off, _, _, rfl, h⟩
        · cases hx with
          | sl hid => exact key _ _ _ _ _ rfl hid h
        · cases hx with
          | su hid _ _ => exact key _ _ _ _ _ rfl hid h
          | se hid => exact absurd rfl h0
    · exfalso
      cases hx
      rw [ite_eq] at h
      split at h <;> simp [V.onS] at h
  · simp only [ite_some, beqN, decide_eq_true_eq, onM_some, blk_some, onMap_some, wOk, bleN] at h
    obtain ⟨hk, h⟩ := h
    have hun := run_underlying (P := P) (hT.k4 hk) w
    rcases h with ⟨id, rfl, b, hb, es, ck, rfl, hle, h⟩ | ⟨rfl, h⟩
    · rw [hro] at hle
      cases hx with
      | m hid =>
        rename_i m B N
        obtain ⟨o, ho, hbr⟩ := hm.own _ _ _ hb hid
        cases hbr with
        | map hes =>
          rename_i es'
          rw [setB_eq] at h
          have hso := Cx.run_setObj (P := P) (o' := .map #[] ck) ho rfl
          have hm' := hm.set_obj (b' := .map [] ck) (o' := .map #[] ck) hb hid hle ho (.map .nil)
          refine ⟨_, undef, _, _, _, ρ, _, h, Sb.refl _, Rle.refl _, Vr.undef, hm', fun ty => ?_⟩
          unfold Builtin.clear_
          simp [ht', hun, Cx.run_getObj ho rfl, hso, undef]
    · cases hx
      refine ⟨_, undef, _, _, _, ρ, _, h, Sb.refl _, Rle.refl _, Vr.undef, hm, fun ty => ?_⟩
      unfold Builtin.clear_
      simp [ht', hun, undef]
theorem cCopy_ok (hE : EnvOk P E z) (hro : E.ro = ro) {ts : Array TypeId} {u u' : V} {x y : Value} (hx : Vr ρ z u x) (hy : Vr ρ z u' y) (hm : Mr ok ro z ρ X w0 H n w) (h : cCopy E ts u u' ⟨S, H, n, D⟩ kv kx = some L) : BiOk P ok ro z ρ X w0 w (fun ty => Builtin.copy_ ts ty #[x, y]) kv S D L := by
  simp only [cCopy, bnd_some, nthL_eq] at h
  obtain ⟨t, ht, ti, hti, h⟩ := h
  replace h := ite_some.1 h
  obtain ⟨hk, h⟩ := h
  rw [beqN, decide_eq_true_eq] at hk
  replace h := bnd_some.1 h
  obtain ⟨te, hte, h⟩ := h
  have ht' : ts[0]? = some t := by simpa using ht
  have hT := hE.ty _ _ hti
  have hU := hE.ty _ _ hte
  obtain ⟨hun, i, hi, hsz, _⟩ := Cx.slcO_spec (hT.slc hk hU)
  have hsize : ∀ u : World, (sizeOf ti.el).run P u = .ok te.sz u := fun u => by simp [sizeOf, typeInfo, hi, hsz]
  replace h := lenS_some hx h
  rcases h with ⟨p, m, cap, rfl, h⟩ | ⟨s, rfl, h⟩
  · replace h := lenS_some hy h
    rcases h with ⟨q, k, cap', rfl, h⟩ | ⟨s, rfl, h⟩
    · rw [frN_eq, minN_eq] at h
      replace h := elems_some hm hy h
      obtain ⟨q', k', cap2, l, cs, he, h, hcs, ⟨hfl, hrd⟩, hlen⟩ := h
      cases he
      have hcl : cs.length = min k m * te.sz := by
        rcases hlen with h1 | ⟨_, h1, _, h2⟩
        · rw [← hcs.len]; exact h1
        · subst h2; rw [← hcs.len, h1]; simp
      have hfc := Cx.run_firstRd (P := P) (len := k) (cap := cap') hrd hcl
      have hmin : Nat.min k m = min k m := rfl
      have fin : ∀ w', (match p with | some a => (storeCells a cs).run P w | none => .ok () w) = .ok () w' → ∀ ty, (Builtin.copy_ ts ty #[.slice p m cap, .slice q k cap']).run P w = .ok (.int .i64 ((min k m : Nat) : Int)) w' := fun w' hw ty => by
        unfold Builtin.copy_
        simp only [ht', List.getElem?_toArray, List.getElem?_cons_zero, List.getElem?_cons_succ, Sem.run_bind, Cx.run_und hun, Result.andThen_ok, hsize, Sem.run_pure, Builtin.lenOf, hfc, hmin]
        cases p with
        | none => simp at hw; subst hw; rfl
        | some a => simp only at hw; simp [hw]; rfl
      rw [ite_eq] at h
      split at h
      · rename_i h0
        rw [beqN, decide_eq_true_eq] at h0
        have hn0 : cs = [] := List.length_eq_zero_iff.1 (by rw [hcl, h0]; simp)
        subst hn0
        simp only [onS_some, reduceCtorEq, and_false, exists_false, or_false] at h
        have h : kv (.i .i64 (Int.ofNat (min k m))) ⟨S, H, n, D⟩ = some L := by
          rcases h with ⟨_, _, _, _, _, h⟩ | ⟨_, _, _, _, _, h⟩ | ⟨_, h⟩ <;> exact h
        exact ⟨_, _, w, _, _, ρ, _, h, Sb.refl _, Rle.refl _, .i, hm, fin w (by cases p <;> simp [storeCells])⟩
      · have key : ∀ id off g B N, p = some ⟨g, B + off, none⟩ → ρ id = some (g, B, N) → wrRow E ⟨S, H, n, D⟩ id off l (fun st => kv (.i .i64 (Int.ofNat (min k m))) st) = some L → BiOk P ok ro z ρ X w0 w (fun ty => Builtin.copy_ ts ty #[.slice p m cap, .slice q k cap']) kv S D L := by
          intro id off g B N hp hid h
          obtain ⟨t', l', cl, hb, hle, hr, h⟩ := wrRow_some.1 h
          rw [hro] at hr
          obtain ⟨w', k1, k2⟩ := hm.write (P := P) hb hid hr hcs hfl hle
          exact ⟨_, _, w', _, _, ρ, _, h, Sb.refl _, Rle.refl _, .i, k2, fin w' (by subst hp; exact k1)⟩
        rename_i h0
        rw [beqN, decide_eq_true_eq] at h0
        simp only [onS_some, reduceCtorEq, and_false, exists_false, or_false] at h
        rcases h with ⟨id, off, _, _, rfl, h⟩ | ⟨id, off, _, _, rfl, h⟩
        · cases hx with
          | sl hid => exact key _ _ _ _ _ rfl hid h
        · cases hx with
          | su hid _ _ => exact key _ _ _ _ _ rfl hid h
          | se hid => exact absurd (Nat.min_zero _) h0
    · exfalso
      cases hy
      simp [elems, frN_eq, V.onS] at h
  · exfalso
    cases hx
    replace h := lenS_some hy h
    rcases h with ⟨q, k, cap', rfl, h⟩ | ⟨s, rfl, h⟩
    · rw [frN_eq] at h
      obtain ⟨q', k', cap2, l, cs, he, h, _⟩ := elems_some hm hy h
      rw [ite_eq] at h
      split at h <;> simp [V.onS] at h
    · cases hy
      simp [elems, frN_eq, V.onS] at h
/-- what either kind of append does: cells new behind the n' elements of the slice p -/
structure Gr (P : Program) (w : World) (R : Sem Value) (e es n m : Nat) (p : Option Addr) (cap : Nat) (cells new zl : List Value) : Prop where
  fit : n + m ≤ cap → R.run P w = (match p with | some a => (storeCells (a.add (n * es)) new).run P w | none => .ok () w).andThen fun _ w' => .ok (.slice p (n + m) cap) w'
  grow : cap < n + m → R.run P w = .ok (.slice (some ⟨w.heap.size, 0, none⟩) (n + m) (Cx.newCap w (n + m) cap e)) (w.drew.alloc (Cx.Blk.row e (cells ++ new ++ (Builtin.zeroCells ⟨zl⟩ (Cx.newCap w (n + m) cap e - (n + m))).toList)).toObj)
theorem ovw_over {α : Type} {L us : List α} {B k : Nat} (h : B + k + us.length ≤ L.length) : ((ovwL L (B + k) us).drop B).take (k + us.length) = (L.drop B).take k ++ us := by
  apply List.ext_getElem?
  intro j
  rw [List.getElem?_take, List.getElem?_drop, ovwL_get _ _ _ _ (by omega), List.getElem?_append, List.length_take, List.length_drop, List.getElem?_take, List.getElem?_drop]
  by_cases hj : j < k
  · rw [if_pos (by omega), if_neg (by omega), if_pos (by omega), if_pos hj]
  · rw [if_neg (by omega : ¬ j < min k (L.length - B))]
    by_cases hj2 : j < k + us.length
    · rw [if_pos hj2, if_pos (by omega)]; congr 1; omega
    · rw [if_neg hj2, List.getElem?_eq_none (by omega)]
theorem grow_ok (hro : E.ro = ro) {el es bt k : Nat} {u : V} {x : Value} {cs : List V} {new zl : List Value} {R : TypeId → Sem Value} (hx : Vr ρ z u x) (hc : Vs ρ z cs new) (hf : Fl new) (hl : new.length = k * es) (hm : Mr ok ro z ρ X w0 H n w) (hz : zl.length = es)
    (hR : ∀ p len cap cells, x = .slice p len cap → Cx.Rd w p cells → cells.length = len * es → (len + k) * bt ≤ 1099511627776 → len + k ≤ 1099511627776 → ∀ ty, Gr P w (R ty) el es len k p cap cells new zl)
    (h : grow E el es bt u k cs ⟨S, H, n, D⟩ kv = some L) : BiOk P ok ro z ρ X w0 w R kv S D L := by
  unfold grow at h
  replace h := lenS_some hx h
  rcases h with ⟨p, len, cap, rfl, h⟩ | ⟨s, rfl, h⟩
  · simp only [le_some] at h
    obtain ⟨hb1, hb2, h⟩ := h
    replace hR := fun cells a b ty => hR p len cap cells rfl a b hb1 hb2 ty
    have lens : ∀ {l : List V} {cells : List Value}, Vs ρ z l cells → (l.length = len * es ∨ (p = none ∧ len = 0 ∧ cap = 0 ∧ l = [])) → cells.length = len * es := fun hcs hlen => by
      rcases hlen with h1 | ⟨_, h1, _, h2⟩
      · rw [← hcs.len]; exact h1
      · subst h2; rw [← hcs.len, h1]; simp
    rw [ite_eq] at h
    split at h
    · rename_i h0
      rw [beqN, decide_eq_true_eq] at h0
      subst h0
      obtain ⟨p', len', cap', l, cells, he, h, hcs, ⟨hfl, hrd⟩, hlen⟩ := elems_some hm hx h
      cases he
      have hn0 : new = [] := List.length_eq_zero_iff.1 (by rw [hl]; simp)
      subst hn0
      have hcl := lens hcs hlen
      have fin : len ≤ cap → kv u ⟨S, H, n, D⟩ = some L → BiOk P ok ro z ρ X w0 w R kv S D L := fun hle h => by
        refine ⟨u, _, w, H, n, ρ, L, h, Sb.refl _, Rle.refl _, hx, hm, fun ty => ?_⟩
        have := (hR cells hrd hcl ty).fit (by omega)
        rw [this]
        cases p <;> simp [storeCells]
      simp only [onS_some, reduceCtorEq, and_false, exists_false, or_false, le_some] at h
      rcases h with ⟨_, _, l1, c1, rfl, h1, h⟩ | ⟨_, _, l1, c1, rfl, h⟩ | ⟨rfl, h⟩
      · cases hx; exact fin h1 h
      · cases hx with
        | su _ _ hle => exact fin hle h
        | se _ => exact fin (Nat.le_refl _) h
      · cases hx; exact fin (Nat.le_refl _) h
    · rename_i h0
      rw [beqN, decide_eq_true_eq] at h0
      -- a new row
      have big : ∀ (H1 : T Bk) (old : List V) (cells : List Value), Mr ok ro z ρ X w0 H1 n w → Vs ρ z old cells → Fl cells → Cx.Rd w p cells → cells.length = len * es → cap < len + k → kv (.su n 0 (len + k) es) (newB ⟨S, H1, n, D⟩ (.row el (appL old cs) false)) = some L → BiOk P ok ro z ρ X w0 w R kv S D L := by
        intro H1 old cells hm1 ho hfo hrd hcl hlt h
        rw [newB_eq, appL_eq] at h
        have hdr : Cx.Ext Cx.No w w.drew := Cx.drew_ext w
        obtain ⟨g1, g2⟩ := lay_row (t := el) (e := el) hm1 (ho.app hc) (hfo.app hf) (Builtin.zeroCells ⟨zl⟩ (Cx.newCap w (len + k) cap el - (len + k))).toList w.drew hdr false
        have hN : (cells ++ new ++ (Builtin.zeroCells ⟨zl⟩ (Cx.newCap w (len + k) cap el - (len + k))).toList).length = Cx.newCap w (len + k) cap el * es := by
          rw [Cx.zeroCells_eq]
          simp only [List.length_append, hcl, hl, Cx.repZ_length, hz]
          have := Cx.newCap_ge w (len + k) cap el
          rw [← Nat.add_mul, ← Nat.add_mul]
          congr 1; omega
        refine ⟨_, .slice (some ⟨w.heap.size, 0, none⟩) (len + k) (Cx.newCap w (len + k) cap el), _, _, _, _, _, h, Sb.refl _, g1, .su (B := 0) Rho.set_same (by rw [hN]; omega) (Cx.newCap_ge _ _ _ _), g2, fun ty => ?_⟩
        rw [(hR cells hrd hcl ty).grow hlt]
        rfl
      simp only [onS_some, reduceCtorEq, and_false, exists_false, or_false] at h
      rcases h with ⟨id, off, l1, c1, rfl, h⟩ | ⟨id, off, l1, es', rfl, h⟩ | ⟨rfl, h⟩
      · cases hx with
        | sl hid =>
          rename_i g B N
          rw [ite_eq] at h
          split at h
          · rename_i hfit
            rw [bleN, decide_eq_true_eq] at hfit
            have hfit : len + k ≤ cap := hfit
            obtain ⟨t', l', cl, hb, hle, hr, h⟩ := wrRow_some.1 h
            have hle : off + len * es + cs.length ≤ l'.length := hle
            rw [hro] at hr
            rw [frN_eq] at h
            obtain ⟨w', k1, k2⟩ := hm.write (P := P) hb hid hr hc hf hle
            obtain ⟨cells, r1, r2, r3⟩ := hm.rd hb hid off
            have hcl : (cells.take (len * es)).length = len * es := by
              rw [List.length_take, ← r1.len, List.length_drop]; omega
            refine ⟨_, .slice (some ⟨g, B + off, none⟩) (len + k) cap, w', _, _, ρ, _, h, Sb.refl _, Rle.refl _, .sl hid, k2, fun ty => ?_⟩
            rw [(hR _ (r3.take _) hcl ty).fit hfit]
            have k1 : (storeCells (⟨g, B + off + len * es, none⟩ : Addr) new).run P w = .ok () w' := by rw [Nat.add_assoc]; exact k1
            simp only [addr_add, k1, Result.andThen_ok]
          · rename_i hfit
            rw [bleN, decide_eq_true_eq] at hfit
            have hfit : ¬ len + k ≤ cap := hfit
            obtain ⟨p', len', cap', l, cells, he, h, hcs, ⟨hfl, hrd⟩, hlen⟩ := elems_some hm (.sl hid) h
            cases he
            simp only [frN_eq] at h
            exact big H l cells hm hcs hfl hrd (lens hcs hlen) (by omega) h
      · simp only [ite_some, beqN, decide_eq_true_eq, wOk, bleN, blk_some, onRow_some] at h
        obtain ⟨rfl, hr, b, hb, t', l', cl, rfl, h⟩ := h
        rw [hro] at hr
        replace h := elems_some hm hx h
        obtain ⟨p', len', cap', l, cells, he, h, hcs, ⟨hfl, hrd⟩, hlen⟩ := h
        cases hx with
        | se hid =>
          cases he
          simp only [frN_eq] at h
          exact big _ l cells (hm.drop id) hcs hfl hrd (lens hcs hlen) (by omega) h
        | su hid hcN hle =>
          rename_i g B N
          cases he
          have hcl := lens hcs hlen
          simp only [frN_eq] at h
          by_cases hfit : len + k ≤ cap
          · have hadd : ∀ s, Nat.add len k = s → s = len + k := fun s e => e.symm
            rw [newB_eq, appL_eq] at h
            obtain ⟨R', e, fz, ho, hN, ⟨hl', hfl'⟩, hf1, hf2⟩ := hm.row hb hid
            have hsz : len * es' + k * es' ≤ cap * es' := by rw [← Nat.add_mul]; exact Nat.mul_le_mul_right _ hfit
            obtain ⟨h1, h2, h3⟩ := run_store_row (P := P) (o := B + off + len * es') (us := new) ho (by rw [hN]; exact hf1) (by rw [hl]; omega) hf
            have hBr : Br ok (ρ.set n (g, B + off, N)) z (.row el (l ++ cs) false) (g, B + off, N) (.cells ⟨ovwL R' (B + off + len * es') new⟩ e fz) := by
              have hle1 := Rho.set_le (x := (g, B + off, N)) (hm.new n (Nat.le_refl _))
              have hcut : ((ovwL R' (B + off + len * es') new).drop (B + off)).take (l ++ cs).length = (R'.drop (B + off)).take (len * es') ++ new := by
                have e1 : (l ++ cs).length = len * es' + new.length := by rw [List.length_append, hcs.len, hc.len, hcl]
                rw [e1]
                exact ovw_over (by rw [hl]; omega)
              have hold : cells = (R'.drop (B + off)).take (len * es') := by
                apply List.ext_getElem?
                intro j
                rw [List.getElem?_take, List.getElem?_drop]
                by_cases hj : j < len * es'
                · rw [if_pos hj]
                  have hjc : j < cells.length := by rw [hcl]; exact hj
                  have := hrd.2 j _ (List.getElem?_eq_getElem hjc)
                  rw [List.getElem?_eq_getElem hjc]
                  simp only [World.cell?, ho] at this
                  have h2 := this
                  simp at h2
                  exact h2.symm
                · rw [if_neg hj, List.getElem?_eq_none (by rw [hcl]; omega)]
              refine .row (by rw [ovwL_len]; exact hN) ?_ ⟨hf1, hf2⟩
              rw [hcut, ← hold]
              exact ⟨(hcs.app hc).mono hle1, hfl.app hf⟩
            obtain ⟨g1, g2⟩ := hm.rename (w' := w.setRow g ⟨ovwL R' (B + off + len * es') new⟩) (B' := B + off) (b' := .row el (l ++ cs) false) hb hid hr rfl rfl rfl (by simp [World.setRow]) h2 h3 hBr
            refine ⟨_, .slice (some ⟨g, B + off, none⟩) (len + k) cap, _, _, _, _, _, h, Sb.refl _, g1, .su (B := B + off) (off := 0) Rho.set_same (by omega) hfit, g2, fun ty => ?_⟩
            rw [(hR _ hrd hcl ty).fit hfit]
            simp only [addr_add, h1, Result.andThen_ok]
          · exact big _ l cells (hm.drop id) hcs hfl hrd hcl (by omega) h
      · cases hx
        simp only [frN_eq] at h
        have h : kv (.su n 0 (0 + k) es) (newB ⟨S, H, n, D⟩ (.row el (appL [] cs) false)) = some L := by rw [Nat.zero_add]; exact h
        exact big H [] [] hm .nil Fl.nil rfl (by simp) (by omega) h
  · exfalso
    cases hx
    simp only [le_some] at h
    obtain ⟨_, _, h⟩ := h
    rw [ite_eq] at h
    split at h
    · simp [elems, V.onS] at h
    · simp [V.onS] at h
theorem cAppend_ok (hE : EnvOk P E z) (hro : E.ro = ro) {ts : Array TypeId} {u u' : V} {x y : Value} (hx : Vr ρ z u x) (hy : Vr ρ z u' y) (hm : Mr ok ro z ρ X w0 H n w) (h : cAppend E ts u u' ⟨S, H, n, D⟩ kv kx = some L) : BiOk P ok ro z ρ X w0 w (fun ty => Builtin.append_ ts ty #[x, y]) kv S D L := by
  simp only [cAppend, bnd_some, nthL_eq] at h
  obtain ⟨t, ht, t2, ht2, ti, hti, te, hte, t2i, ht2i, h⟩ := h
  have ht' : ts[0]? = some t := by simpa using ht
  have ht2' : ts[1]? = some t2 := by simpa using ht2
  have hT := hE.ty _ _ hti
  have hU := hE.ty _ _ hte
  have hT2 := hE.ty _ _ ht2i
  rw [ite_eq] at h
  split at h
  · cases h
  obtain ⟨hk, h⟩ := ite_some.1 h
  rw [beqN, decide_eq_true_eq] at hk
  obtain ⟨zl, e1, e2, hzf, e3⟩ := hU.zr
  have hslc := hT.slc hk hU
  rw [ite_eq] at h
  split at h
  · rename_i hk2
    rw [beqN, decide_eq_true_eq] at hk2
    simp only [idxN_some, le_some, frN_eq] at h
    obtain ⟨k, m, rfl, hm64, h⟩ := h
    cases hy
    refine grow_ok hro hx ((e3 ρ z).rep m) (hzf.rep m) (by rw [Cx.repZ_length, e2]) hm e2 (fun p len cap cells hx' hrd hcl hb1 hb2 ty => ?_) h
    subst hx'
    obtain ⟨f1, f2⟩ := Cx.run_appendZ (w := w) (n := len) (m := m) (cap := cap) (k' := k) (ty := ty) hslc ht' ht2' (hT2.intO hk2) e1 e2 hrd hcl (by omega) (by omega)
    exact ⟨f1, f2⟩
  · obtain ⟨hk2, h⟩ := ite_some.1 h
    rw [beqN, decide_eq_true_eq] at hk2
    obtain ⟨te2, hte2, h⟩ := bnd_some.1 h
    have hslc2 := hT2.slc hk2 (hE.ty _ _ hte2)
    replace h := lenS_some hy h
    rcases h with ⟨q, k, cap', rfl, h⟩ | ⟨s, rfl, h⟩
    · obtain ⟨q', k', cap2, l, cs, he, h, hcs, ⟨hfl, hrd⟩, hlen⟩ := elems_some hm hy h
      cases he
      have hcl : cs.length = k * te.sz := by
        rcases hlen with h1 | ⟨_, h1, _, h2⟩
        · rw [← hcs.len]; exact h1
        · subst h2; rw [← hcs.len, h1]; simp
      refine grow_ok hro hx hcs hfl hcl hm e2 (fun p len cap cells hx' hrd' hcl' hb1 hb2 ty => ?_) h
      subst hx'
      obtain ⟨f1, f2⟩ := Cx.run_append (w := w) (cap := cap) (c := cap') (ty := ty) hslc ht' ht2' hslc2 e1 hrd hcl hrd' hcl' (by omega) (by omega)
      exact ⟨f1, f2⟩
    · exfalso
      cases hy
      simp [elems, V.onS] at h
end
end Go.Ev

namespace Go.Ev
set_option linter.unusedVariables false
set_option linter.unusedSimpArgs false
set_option linter.constructorNameAsVariable false
open Go
abbrev OkL := Nat → Nat → Code → Code → List Nat → Prop
section
variable (ok : OkL) (ro : Nat) (z : Int) (X : Xz) (w0 : World)
/-- the one global: its block, what stands there, and that nothing may turn it -/
def Gl (ρ : Rho) : Prop := ρ 0 = some (0, 0, 1) ∧ ¬ X.b 0 ∧ ∃ e fz, w0.heap[0]? = some (.cells #[.int .i64 z] e fz)
/-- an outcome of a call -/
inductive RsOk (ρ : Rho) : Rs → Ending → World → Prop where
  | ret {v : V} {x : Value} {H : T Bk} {n : Nat} {w : World} (hv : Vr ρ z v x) (hm : Mr ok ro z ρ X w0 H n w) : RsOk ρ (.ret v H n) (.returned x) w
  | pan {v : V} {x : Value} {H : T Bk} {n : Nat} {w : World} (hv : Vr ρ z v x) (hm : Mr ok ro z ρ X w0 H n w) : RsOk ρ (.pan v H n) (.panicked [{ v := x, recovered := false }]) w
def CallP (ρ : Rho) (kc : Rs → R) (L : List Rs) (e : Ending) (w : World) : Prop := ∃ r ρ' L', kc r = some L' ∧ Sb L' L ∧ Rle ρ ρ' ∧ RsOk ok ro z X w0 ρ' r e w
/-- a frame and its walk's state -/
structure StOk (ρ : Rho) (nt : Nat) (st : St) (a : Act) (w : World) : Prop where
  tm : Sr ρ z nt st.S a.tmps
  df : Drs ρ z st.D a.defers
  mem : Mr ok ro z ρ X w0 st.H st.n w
  gl : Gl z X w0 ρ
/-- whether the frame is a round's -/
def RdOk (ρ : Rho) : Option Nat → Option Nat → Prop
  | none, none => True
  | some id, some l => ∃ N, ρ id = some (l, 0, N)
  | _, _ => False
/-- where code may end -/
def CodeP (ρ : Rho) (nt : Nat) (k : Ex → St → R) (L : List Rs) : Exit → Act → World → Prop
  | .normal, a, w => ∃ st ρ' L', k .norm st = some L' ∧ Sb L' L ∧ Rle ρ ρ' ∧ StOk ok ro z X w0 ρ' nt st a w
  | .ret, a, w => ∃ st ρ' L', k .ret st = some L' ∧ Sb L' L ∧ Rle ρ ρ' ∧ StOk ok ro z X w0 ρ' nt st a w
  | .exit i, a, w => ∃ st ρ' L', k (.ex i) st = some L' ∧ Sb L' L ∧ Rle ρ ρ' ∧ StOk ok ro z X w0 ρ' nt st a w
  | .panic c, a, w => ∃ st ρ' L' v x, k (.pan v) st = some L' ∧ Sb L' L ∧ Rle ρ ρ' ∧ Vr ρ' z v x ∧ c = [{ v := x, recovered := false }] ∧ Drs ρ' z st.D a.defers ∧ Mr ok ro z ρ' X w0 st.H st.n w ∧ Gl z X w0 ρ' ∧ Sr ρ' z nt st.S a.tmps
  | _, _, _ => False
end
theorem Gl.mono {z : Int} {X : Xz} {w0 : World} {ρ σ : Rho} (h : Gl z X w0 ρ) (hle : Rle ρ σ) : Gl z X w0 σ := ⟨hle _ _ h.1, h.2⟩
theorem Gl.at {ok : OkL} {ro : Nat} {z : Int} {X : Xz} {w0 w : World} {ρ : Rho} {H : T Bk} {n : Nat} (h : Gl z X w0 ρ) (hm : Mr ok ro z ρ X w0 H n w) : ∃ e fz, w.heap[0]? = some (.cells #[.int .i64 z] e fz) := by
  obtain ⟨_, h2, e, fz, h3⟩ := h
  exact ⟨e, fz, (hm.ext.same 0 (Array.getElem?_eq_some_iff.1 h3).1 h2).trans h3⟩
theorem RdOk.mono {ρ σ : Rho} {i l : Option Nat} (h : RdOk ρ i l) (hle : Rle ρ σ) : RdOk σ i l := by
  cases i <;> cases l <;> simp only [RdOk] at *
  obtain ⟨N, h⟩ := h
  exact ⟨N, hle _ _ h⟩
section
variable {P : Program} {E : Env} {ok : OkL} {z : Int} {ρ σ : Rho} {X : Xz} {w0 w : World} {H : T Bk} {n ro nt : Nat} {S : T V} {a : Act} {v : V} {D : List Df} {L L' : List Rs} {k k' : Ex → St → R}
/-- a walk that goes on from another place -/
theorem CodeP.sub {e : Exit} (h : CodeP ok ro z X w0 σ nt k L' e a w) (hs : Sb L' L) (hle : Rle ρ σ) : CodeP ok ro z X w0 ρ nt k L e a w := by
  cases e <;> simp only [CodeP] at *
  · obtain ⟨st, ρ', L'', h1, h2, h3, h4⟩ := h; exact ⟨st, ρ', L'', h1, h2.trans hs, hle.trans h3, h4⟩
  · obtain ⟨st, ρ', L'', h1, h2, h3, h4⟩ := h; exact ⟨st, ρ', L'', h1, h2.trans hs, hle.trans h3, h4⟩
  · obtain ⟨st, ρ', L'', h1, h2, h3, h4⟩ := h; exact ⟨st, ρ', L'', h1, h2.trans hs, hle.trans h3, h4⟩
  · obtain ⟨st, ρ', L'', v, x, h1, h2, h3, h4, h5, h6⟩ := h; exact ⟨st, ρ', L'', v, x, h1, h2.trans hs, hle.trans h3, h4, h5, h6⟩
theorem CallP.sub {kc : Rs → R} {e : Ending} (h : CallP ok ro z X w0 σ kc L' e w) (hs : Sb L' L) (hle : Rle ρ σ) : CallP ok ro z X w0 ρ kc L e w := by
  obtain ⟨r, ρ', L'', h1, h2, h3, h4⟩ := h
  exact ⟨r, ρ', L'', h1, h2.trans hs, hle.trans h3, h4⟩

/-! ### Loops, one round at a time -/
/-- within a loop, ahead of its body -/
def LoopIn (F : Fence) (n : Nat) (P : Program) (c : Code) (Q : Exit → Act → World → Prop) (a : Act) (w : World) : Prop :=
  ∀ (b : Frame) (k : List Item) (cs : List Frame), b.roundOf = F.round → F.fn b.fn → F.room (cs.length + 1 + n) →
    ∃ e a' w', Q e a' w' ∧ ArrivesIn (Machine.fenced P F) P (lone (b.atR a (.code c :: .inLoop c :: k)) cs w) b k cs e a' w'
theorem LoopIn.wpIn {F : Fence} {n : Nat} {c : Code} {Q : Exit → Act → World → Prop} (h : LoopIn F n P c Q a w) : (Code.loop c).wpIn F n P Q a w := fun b k cs hro hb hr => by
  obtain ⟨e, a', w', hq, harr⟩ := h b k cs hro hb hr
  exact ⟨e, a', w', hq, .of_steps (.one (fenced_calm hb hr rfl) stepR_loop) harr⟩
theorem LoopIn.of {F : Fence} {n : Nat} {c : Code} {Q : Exit → Act → World → Prop} (h : c.wpIn F n P (Exit.then (LoopIn F n P c Q) Q) a w) : LoopIn F n P c Q a w := fun b k cs hro hb hr => by
  obtain ⟨e, a₁, w₁, hq, harr⟩ := h b (.inLoop c :: k) cs hro hb hr
  cases e with
  | normal =>
    obtain ⟨e₂, a₂, w₂, hq₂, harr₂⟩ := hq b k cs hro hb hr
    exact ⟨e₂, a₂, w₂, hq₂, .of_steps (StepsIn.trans harr (.one (fenced_calm hb hr rfl) stepR_inLoop)) harr₂⟩
  | exit id => exact ⟨_, a₁, w₁, hq, .pass (x := .inLoop c) rfl (fun _ _ => .inl (by simp)) harr⟩
  | goto l => exact ⟨_, a₁, w₁, hq, .pass (x := .inLoop c) rfl (fun _ _ => .inl (by simp)) harr⟩
  | ret => exact ⟨_, a₁, w₁, hq, .pass (x := .inLoop c) rfl (fun _ _ => .inl (by simp)) harr⟩
  | panic ch => exact ⟨_, a₁, w₁, hq, .pass (x := .inLoop c) rfl (fun _ _ => .inl (by simp)) harr⟩
  | outgrown => exact ⟨_, a₁, w₁, hq, .pass (x := .inLoop c) rfl (fun _ _ => .inl (by simp)) harr⟩

/-! ### What is known of a walk with some fuel -/
/-- a piece of code's static check (function, slots) -/
abbrev OkC := Nat → Nat → Code → Prop
def SndCall (P : Program) (ok : OkL) (ro : Nat) (z : Int) (ih : Tk → R) : Prop := ∀ f args H n kc L ρ X w0 w vs, ih (.call f args H n kc) = some L → Vs ρ z args vs → Mr ok ro z ρ X w0 H n w → Gl z X w0 ρ →
  Cx.isGo P f = true ∧ Calls P f ⟨vs⟩ w (CallP ok ro z X w0 ρ kc L)
def SndCode (P : Program) (ok : OkL) (okc : OkC) (ro : Nat) (z : Int) (ih : Tk → R) : Prop := ∀ c ct st k L ρ X w0 w a nt r, ih (.code c ct st k) = some L → okc ct.f nt c → StOk ok ro z X w0 ρ nt st a w → RdOk ρ ct.r r →
  c.wpIn (Cx.Fw r) 0 P (CodeP ok ro z X w0 ρ nt k L) a w
def SndLoop (P : Program) (ok : OkL) (okc : OkC) (ro : Nat) (z : Int) (ih : Tk → R) : Prop := ∀ c ct st k L ρ X w0 w a nt r, ih (.code (.loop c) ct st k) = some L → okc ct.f nt (.loop c) → StOk ok ro z X w0 ρ nt st a w → RdOk ρ ct.r r →
  LoopIn (Cx.Fw r) 0 P c (CodeP ok ro z X w0 ρ nt k L) a w
structure Snd (P : Program) (ok : OkL) (okc : OkC) (ro : Nat) (z : Int) (ih : Tk → R) : Prop where
  call : SndCall P ok ro z ih
  code : SndCode P ok okc ro z ih
  loop : SndLoop P ok okc ro z ih
/-- the static check goes through code -/
structure OkCs (okc : OkC) : Prop where
  seq : ∀ {f nt a b}, okc f nt (.seq a b) → okc f nt a ∧ okc f nt b
  cond : ∀ {f nt x a b}, okc f nt (.cond x a b) → okc f nt a ∧ okc f nt b
  block : ∀ {f nt i b}, okc f nt (.block i b) → okc f nt b
  loop : ∀ {f nt b}, okc f nt (.loop b) → okc f nt b
  scope : ∀ {f nt b}, okc f nt (.scope b) → okc f nt b
theorem stepR_scope {b : Frame} {k : List Item} {cs : List Frame} {c : Code} : Go.step P (lone (b.atR a (.code (.scope c) :: k)) cs w) = .next (lone (b.atR a (.code c :: .inScope c :: k)) cs w) :=
  step_lone_go (by simp [stepG, stepG.exec, Frame.atR])
theorem stepR_inScope {b : Frame} {k : List Item} {cs : List Frame} {c : Code} : Go.step P (lone (b.atR a (.inScope c :: k)) cs w) = .next (lone (b.atR a k) cs w) :=
  step_lone_go (by simp [stepG, stepG.exec, Frame.atR])
theorem wpIn_scopeN {F : Fence} {n : Nat} {c : Code} {Q : Exit → Act → World → Prop} (h : c.wpIn F n P Q a w) (hg : ∀ l a w, ¬ Q (.goto l) a w) : (Code.scope c).wpIn F n P Q a w := fun b k cs hro hb hr => by
  have h0 : (lone (b.atR a (.code (.scope c) :: k)) cs w).fenced P F := fenced_calm hb hr rfl
  obtain ⟨e, a₁, w₁, hq, harr⟩ := h b (.inScope c :: k) cs hro hb hr
  cases e with
  | normal => exact ⟨.normal, a₁, w₁, hq, .head h0 stepR_scope (StepsIn.trans harr (.one (fenced_calm hb hr rfl) stepR_inScope))⟩
  | exit id =>
    have hx : exitTo id (.inScope c :: k) = exitTo id k := by simp [exitTo]
    exact ⟨.exit id, a₁, w₁, hq, fun k' hk => .head h0 stepR_scope (harr.1 k' (by rw [hx]; exact hk)),
        fun hr' hk => let ⟨k₁, h1, h2⟩ := harr.2 hr' (by rw [hx]; exact hk); ⟨k₁, h1, .head h0 stepR_scope h2⟩⟩
  | goto l => exact absurd hq (hg _ _ _)
  | ret => exact ⟨_, a₁, w₁, hq, .of_steps (.one h0 stepR_scope) harr⟩
  | panic ch => exact ⟨_, a₁, w₁, hq, .of_steps (.one h0 stepR_scope) harr⟩
  | outgrown => exact ⟨_, a₁, w₁, hq, .of_steps (.one h0 stepR_scope) harr⟩
section code
variable {okc : OkC} {ih : Tk → R} {ct : Ct} {st : St} {r : Option Nat}
theorem seq_snd (hI : Snd P ok okc ro z ih) {b : Code} {e : Exit} (hb : okc ct.f nt b) (hr : RdOk ρ ct.r r) (h : CodeP ok ro z X w0 ρ nt (seqK ih ct b k) L e a w) : Exit.then (b.wpIn (Cx.Fw r) 0 P (CodeP ok ro z X w0 ρ nt k L)) (CodeP ok ro z X w0 ρ nt k L) e a w := by
  cases e with
  | normal =>
    obtain ⟨st', ρ', L', h1, h2, h3, h4⟩ := h
    exact wpIn_mono (hI.code b ct st' k L' ρ' X w0 w a nt r h1 hb h4 (hr.mono h3)) fun e a w hq => hq.sub h2 h3
  | ret => exact h
  | exit i => exact h
  | panic c => exact h
  | goto l => exact h
  | outgrown => exact h
theorem seqL_snd (hI : Snd P ok okc ro z ih) {b : Code} {e : Exit} (hb : okc ct.f nt (.loop b)) (hr : RdOk ρ ct.r r) (h : CodeP ok ro z X w0 ρ nt (seqK ih ct (.loop b) k) L e a w) : Exit.then (LoopIn (Cx.Fw r) 0 P b (CodeP ok ro z X w0 ρ nt k L)) (CodeP ok ro z X w0 ρ nt k L) e a w := by
  cases e with
  | normal =>
    obtain ⟨st', ρ', L', h1, h2, h3, h4⟩ := h
    have := hI.loop b ct st' k L' ρ' X w0 w a nt r h1 hb h4 (hr.mono h3)
    intro b' k' cs hro hb' hrm
    obtain ⟨e, a', w', hq, harr⟩ := this b' k' cs hro hb' hrm
    exact ⟨e, a', w', hq.sub h2 h3, harr⟩
  | ret => exact h
  | exit i => exact h
  | panic c => exact h
  | goto l => exact h
  | outgrown => exact h
/-- code that is no region and no range over a function -/
theorem code_snd (hI : Snd P ok okc ro z ih) (hC : OkCs okc) {c : Code} (h : evCode E ih c ct st k = some L) (hc : okc ct.f nt c) (hst : StOk ok ro z X w0 ρ nt st a w) (hr : RdOk ρ ct.r r)
    (hreg : ∀ id ops dr, c = .region id ops dr → c.wpIn (Cx.Fw r) 0 P (CodeP ok ro z X w0 ρ nt k L) a w) (hrf : ∀ g ps asg body, c = .rangeFunc g ps asg body → c.wpIn (Cx.Fw r) 0 P (CodeP ok ro z X w0 ρ nt k L) a w) :
    c.wpIn (Cx.Fw r) 0 P (CodeP ok ro z X w0 ρ nt k L) a w := by
  cases c with
  | skip => exact wpIn_skip ⟨st, ρ, L, h, Sb.refl _, Rle.refl _, hst⟩
  | region id ops dr => exact hreg _ _ _ rfl
  | seq x y =>
    obtain ⟨o1, o2⟩ := hC.seq hc
    exact wpIn_seq (wpIn_mono (hI.code x ct st _ L ρ X w0 w a nt r h o1 hst hr) fun e a w hq => seq_snd hI o2 hr hq)
  | cond x y1 y2 =>
    obtain ⟨o1, o2⟩ := hC.cond hc
    replace h : (bnd (evO st.S x) fun v => v.onB fun t => ih (.code (ite_ t y1 y2) ct st k)) = some L := h
    simp only [bnd_some, onB_some] at h
    obtain ⟨v, hv, t, rfl, h⟩ := h
    obtain ⟨x', h1, h2, h3⟩ := (Ox.of hst.tm hst.gl.1 x).ev hv
    cases h3
    refine wpIn_cond_split h2 (fun ht => ?_) (fun ht => ?_)
    · subst ht; exact hI.code y1 ct st k L ρ X w0 w a nt r h o1 hst hr
    · subst ht; exact hI.code y2 ct st k L ρ X w0 w a nt r h o2 hst hr
  | block i b =>
    refine wpIn_block (wpIn_mono (hI.code b ct st _ L ρ X w0 w a nt r h (hC.block hc) hst hr) fun e a w hq => ?_)
    cases e with
    | normal => exact hq
    | ret => exact hq
    | exit j =>
      obtain ⟨st', ρ', L', h1, h2, h3, h4⟩ := hq
      replace h1 : ite_ (Nat.beq j i) (k .norm st') (k (.ex j) st') = some L' := h1
      rw [ite_eq, beqN] at h1
      by_cases hj : j = i
      · rw [if_pos (by simpa using hj)] at h1
        show (if j = i then CodeP ok ro z X w0 ρ nt k L .normal a w else CodeP ok ro z X w0 ρ nt k L (.exit j) a w)
        rw [if_pos hj]
        exact ⟨st', ρ', L', h1, h2, h3, h4⟩
      · rw [if_neg (by simpa using hj)] at h1
        show (if j = i then CodeP ok ro z X w0 ρ nt k L .normal a w else CodeP ok ro z X w0 ρ nt k L (.exit j) a w)
        rw [if_neg hj]
        exact ⟨st', ρ', L', h1, h2, h3, h4⟩
    | panic c => exact hq
    | goto l => exact hq
    | outgrown => exact hq
  | loop b => exact LoopIn.wpIn (LoopIn.of (wpIn_mono (hI.code b ct st _ L ρ X w0 w a nt r h (hC.loop hc) hst hr) fun e a w hq => seqL_snd hI hc hr hq))
  | rangeFunc g ps asg body => exact hrf _ _ _ _ rfl
  | exit i => exact wpIn_exit ⟨st, ρ, L, h, Sb.refl _, Rle.refl _, hst⟩
  | scope b => exact wpIn_scopeN (hI.code b ct st k L ρ X w0 w a nt r h (hC.scope hc) hst hr) fun l a w hq => hq
  | label l => exact wpIn_label ⟨st, ρ, L, h, Sb.refl _, Rle.refl _, hst⟩
  | goto l => cases h
  | ret => exact wpIn_ret ⟨st, ρ, L, h, Sb.refl _, Rle.refl _, hst⟩
  | refuse s => cases h
theorem loop_snd (hI : Snd P ok okc ro z ih) (hC : OkCs okc) {b : Code} (h : evCode E ih (.loop b) ct st k = some L) (hc : okc ct.f nt (.loop b)) (hst : StOk ok ro z X w0 ρ nt st a w) (hr : RdOk ρ ct.r r) : LoopIn (Cx.Fw r) 0 P b (CodeP ok ro z X w0 ρ nt k L) a w :=
  LoopIn.of (wpIn_mono (hI.code b ct st _ L ρ X w0 w a nt r h (hC.loop hc) hst hr) fun e a w hq => seqL_snd hI hc hr hq)
end code
end
end Go.Ev

namespace Go.Ev
set_option linter.unusedVariables false
set_option linter.unusedSimpArgs false
set_option linter.constructorNameAsVariable false
open Go
section
variable (ok : OkL) (ro : Nat) (z : Int) (X : Xz) (w0 : World)
/-- the walk goes on with a value .. -/
def KvP (ρ : Rho) (S : T V) (kv : Kv) (L : List Rs) (ds : List Deferred) (y : Value) (w : World) : Prop :=
  ∃ v H n D ρ' L', kv v ⟨S, H, n, D⟩ = some L' ∧ Sb L' L ∧ Rle ρ ρ' ∧ Vr ρ' z v y ∧ Drs ρ' z D ds ∧ Mr ok ro z ρ' X w0 H n w
/-- .. or with a panic -/
def KxP (ρ : Rho) (S : T V) (D : List Df) (kx : Kx) (L : List Rs) (c : List PanicEntry) (w : World) : Prop :=
  ∃ v H n ρ' L' x, kx (.pan v) ⟨S, H, n, D⟩ = some L' ∧ Sb L' L ∧ Rle ρ ρ' ∧ Vr ρ' z v x ∧ c = [{ v := x, recovered := false }] ∧ Mr ok ro z ρ' X w0 H n w
end
/-- What an operation comes to, in a frame a, in world w. -/
def OpOk (P : Program) (ok : OkL) (ro : Nat) (z : Int) (X : Xz) (w0 : World) (ρ : Rho) (S : T V) (D : List Df) (kv : Kv) (kx : Kx) (L : List Rs) (r : Option Nat) (a : Act) (w : World) (op : Op) : Prop :=
  ∀ dst ty pos af g (next : Act → World → Prop) (Q : Exit → Act → World → Prop), (∀ ds y w', KvP ok ro z X w0 ρ S kv L ds y w' → next ({ a with defers := ds }.put dst y) w') → (∀ c w', KxP ok ro z X w0 ρ S D kx L c w' → Q (.panic c) a w') →
    Oper.uponIn (Cx.Fw r) 0 P ⟨dst, op, ty, pos, af, g⟩ a next Q (((⟨dst, op, ty, pos, af, g⟩ : Oper).semAt r a.eval).run P w)
section
variable {P : Program} {E : Env} {ok : OkL} {z : Int} {ρ : Rho} {X : Xz} {w0 w : World} {H : T Bk} {n ro : Nat} {S : T V} {a : Act} {v : V} {D : List Df} {kv : Kv} {kx : Kx} {L : List Rs} {r : Option Nat} {op : Op}
theorem OpOk.val (hd : ∀ c, op ≠ .defer c) (hD : Drs ρ z D a.defers) (hm : Mr ok ro z ρ X w0 H n w) (hr : ∃ y, Vr ρ z v y ∧ RunV P a w op y) (h : kv v ⟨S, H, n, D⟩ = some L) : OpOk P ok ro z X w0 ρ S D kv kx L r a w op := fun dst ty pos af g next Q hn hp => by
  obtain ⟨y, h1, h2⟩ := hr
  rw [Oper.semAt_eq _ _ _ hd, h2]
  exact hn a.defers y w ⟨v, H, n, D, ρ, L, h, Sb.refl _, Rle.refl _, h1, hD, hm⟩
theorem OpOk.pv {f : Hd} (hd : ∀ c, op ≠ .defer c) (hD : Drs ρ z D a.defers) (hm : Mr ok ro z ρ X w0 H n w) (hr : ∀ v, f S H = some v → ∃ y, Vr ρ z v y ∧ RunV P a w op y) (h : pv f ⟨S, H, n, D⟩ kv kx = some L) : OpOk P ok ro z X w0 ρ S D kv kx L r a w op := by
  obtain ⟨v, h1, h2⟩ := bnd_some.1 h
  exact OpOk.val hd hD hm (hr v h1) h2
theorem OpOk.eff (hd : ∀ c, op ≠ .defer c) (hD : Drs ρ z D a.defers) (h : EffOk P ok ro z ρ X w0 a w op kv S D L) : OpOk P ok ro z X w0 ρ S D kv kx L r a w op := fun dst ty pos af g next Q hn hp => by
  obtain ⟨v, y, w', H', n', ρ', L', h1, h2, h3, h4, h5, h6⟩ := h
  rw [Oper.semAt_eq _ _ _ hd]
  rcases h6 dst ty pos af g with h7 | ⟨h7, rfl⟩
  · rw [h7]
    exact hn a.defers y w' ⟨v, H', n', D, ρ', L', h1, h2, h3, h4, hD.mono h3, h5⟩
  · rw [h7]
    exact hn a.defers undef w' ⟨v, H', n', D, ρ', L', h1, h2, h3, h4, hD.mono h3, h5⟩
theorem cPanic_ok {x : Operand} (hx : Ox ρ z S a x) (hm : Mr ok ro z ρ X w0 H n w) (h : cPanic x ⟨S, H, n, D⟩ kv kx = some L) : OpOk P ok ro z X w0 ρ S D kv kx L r a w (.panic x) := fun dst ty pos af g next Q hn hp => by
  simp only [cPanic, bnd_some, onIf_some, reduceCtorEq, and_false, or_false] at h
  obtain ⟨p, hp', t, u, rfl, h⟩ := h
  obtain ⟨x', h1, h2, h3⟩ := hx.ev hp'
  rw [Oper.semAt_eq _ _ _ (by intro c; simp)]
  have hrun : (execOp a.eval ⟨dst, .panic x, ty, pos, af, g⟩).run P w = .halt (.panic x') w := by
    rw [← h2]
    cases h3 with
    | iv h4 => simp [execOp, Instr.panic, h2]
  rw [hrun]
  exact hp _ w ⟨_, H, n, ρ, L, x', h, Sb.refl _, Rle.refl _, h3, rfl, hm⟩
theorem cDefer_ok {ct : Ct} {c : Call} (hr : RdOk ρ ct.r r) (hx : ∀ x ∈ c.operands, Ox ρ z S a x) (hD : Drs ρ z D a.defers) (hm : Mr ok ro z ρ X w0 H n w) (h : cDefer ct c ⟨S, H, n, D⟩ kv kx = some L) : OpOk P ok ro z X w0 ρ S D kv kx L r a w (.defer c) := fun dst ty pos af g next Q hn hp => by
  obtain ⟨f, ⟨rr⟩⟩ := ct
  · cases r with
    | some l => exact hr.elim
    | none =>
      replace h : (bnd (evOs S c.args.toList) fun vs => Callee.casesOn (motive := fun _ => R) c.callee (fun f => bnd (evO S f) fun fv => fv.onF (fun g fi ca => kv undefV ⟨S, H, n, .call g (appL (appL fi vs) ca) :: D⟩) (fun _ => none)) (fun _ _ => none) (fun _ => none)) = some L := h
      obtain ⟨vs, hvs, h⟩ := bnd_some.1 h
      obtain ⟨ce, as, ts⟩ := c
      cases ce with
      | value q =>
        obtain ⟨fv, hfv, h⟩ := bnd_some.1 h
        simp only [onF_some, reduceCtorEq, and_false, exists_false, or_false] at h
        obtain ⟨g', fi, ca, rfl, h⟩ := h
        rw [appL_eq, appL_eq] at h
        obtain ⟨q', h1, h2, h3⟩ := (hx q (by simp [Call.operands])).ev hfv
        obtain ⟨ys, k1, k2, k3⟩ := evOs_ok (a := a) (fun x hx' => hx x (by simp [Call.operands]; right; simpa using hx')) hvs
        obtain ⟨fi', ca', rfl, f1, f2⟩ := h3.f_inv
        have h4 : as.map a.eval = ⟨ys⟩ := by obtain ⟨l⟩ := as; simpa using k2
        have hrun : (execOp a.eval ⟨dst, .defer ⟨.value q, as, ts⟩, ty, pos, af, g⟩).run P w = .ok (.defer { target := .fn (.func g') ⟨ca'⟩, args := ⟨fi'⟩ ++ ⟨ys⟩ }) w := by
          simp [execOp, resolve, h2, h4, Deferred.ofValue]
        rw [Oper.semAt_none, hrun]
        have e : (⟨fi'⟩ ++ ⟨ys⟩ : Array Value) = ⟨fi' ++ ys⟩ := by simp
        rw [e]
        exact hn _ undef w ⟨_, H, n, _, ρ, L, h, Sb.refl _, Rle.refl _, Vr.undef, .cons (.call ((f1.app k3).app f2)) hD, hm⟩
      | invoke q nm => cases h
      | builtin b => cases h
  · cases h
end
end Go.Ev

namespace Go.Ev
set_option linter.unusedVariables false
set_option linter.unusedSimpArgs false
set_option linter.constructorNameAsVariable false
open Go
theorem preB_nil (l : List Nat) : preB [] l = true := rfl
theorem preB_cons (x : Nat) (p : List Nat) (l : List Nat) : preB (x :: p) l = match l with | [] => false | y :: ys => x == y && preB p ys := by
  cases l with
  | nil => rfl
  | cons y ys =>
    show andB (Nat.beq x y) (preB p ys) = (x == y && preB p ys)
    rw [andB_eq, beqN]
    by_cases h : x = y <;> simp [h]
theorem preB_eq : ∀ (p l : List Nat), preB p l = decide (l.take p.length = p)
  | [], l => by simp [preB_nil]
  | x :: p, [] => by rw [preB_cons]; simp
  | x :: p, y :: ys => by
    rw [preB_cons]
    simp only [preB_eq p ys, List.length_cons, List.take_succ_cons, List.cons.injEq]
    rw [Bool.decide_and]
    congr 1
    by_cases h : x = y
    · subst h; simp
    · have h' : ¬ (y = x) := fun e => h e.symm
      simp [h, h']
theorem findB_nil (p : List Nat) (i : Nat) : findB p [] i = if p = [] then (i : Int) else -1 := by
  cases p <;> rfl
theorem findB_cons (p : List Nat) (x : Nat) (l : List Nat) (i : Nat) : findB p (x :: l) i = if preB p (x :: l) = true then (i : Int) else findB p l (i + 1) := by
  show ite_ (preB p (x :: l)) _ _ = _
  rw [ite_eq]; rfl
theorem findB_spec (p : List Nat) : ∀ (l : List Nat) (i : Nat), findB p l i = match (List.range (l.length + 1 - p.length)).find? (fun j => decide ((l.drop j).take p.length = p)) with | some j => ((i + j : Nat) : Int) | none => -1
  | [], i => by
    rw [findB_nil]
    cases p with
    | nil => simp [List.range_succ]
    | cons x p => simp
  | x :: l, i => by
    rw [findB_cons, preB_eq]
    by_cases hp : p.length ≤ l.length + 1
    · have e : (x :: l).length + 1 - p.length = (l.length + 1 - p.length) + 1 := by simp only [List.length_cons]; omega
      rw [e, List.range_succ_eq_map, List.find?_cons]
      simp only [List.drop_zero]
      by_cases h : (x :: l).take p.length = p
      · simp [h]
      · simp only [h, decide_false, Bool.false_eq_true, if_false, List.find?_map]
        rw [findB_spec p l (i + 1)]
        simp only [Function.comp_def, Nat.succ_eq_add_one, List.drop_succ_cons]
        cases (List.range (l.length + 1 - p.length)).find? (fun j => decide ((l.drop j).take p.length = p)) with
        | none => rfl
        | some j => simp only [Option.map_some]; congr 1; omega
    · have h0 : (x :: l).length + 1 - p.length = 0 := by simp only [List.length_cons]; omega
      have h1 : ¬ (x :: l).take p.length = p := fun e => by
        have := congrArg List.length e
        simp only [List.length_take, List.length_cons] at this
        omega
      rw [h0]
      simp only [h1, decide_false, Bool.false_eq_true, if_false, List.range_zero, List.find?_nil]
      rw [findB_spec p l (i + 1)]
      have h2 : l.length + 1 - p.length = 0 := by omega
      rw [h2]; rfl
theorem bstr_size (xs : List UInt8) : (Cx.bstr xs).size = xs.length := rfl
theorem bstr_extract (xs : List UInt8) (i j : Nat) : ((Cx.bstr xs).extract i j).data.toList = (xs.drop i).take (j - i) := by
  rw [ByteArray.data_extract, Array.toList_extract]
  rfl
theorem map_inj8 : ∀ {a b : List UInt8}, a.map UInt8.toNat = b.map UInt8.toNat ↔ a = b := by
  intro a b
  constructor
  · intro h
    induction a generalizing b with
    | nil => cases b with
      | nil => rfl
      | cons y b => simp at h
    | cons x a ih => cases b with
      | nil => simp at h
      | cons y b =>
        simp only [List.map_cons, List.cons.injEq] at h
        rw [UInt8.toNat_inj.1 h.1, ih h.2]
  · exact fun h => h ▸ rfl
theorem ba_beq (a b : ByteArray) : (a == b) = decide (a = b) := by
  obtain ⟨a⟩ := a
  obtain ⟨b⟩ := b
  have e : ((⟨a⟩ : ByteArray) == ⟨b⟩) = (a == b) := rfl
  rw [e]
  by_cases h : a = b
  · subst h; simp
  · have h' : ¬ (⟨a⟩ : ByteArray) = ⟨b⟩ := fun e => h (by injection e)
    simp [h, h']
theorem ext_eq (xs ys : List UInt8) (i : Nat) : (((Cx.bstr xs).extract i (i + (Cx.bstr ys).size)) == Cx.bstr ys) = decide (((xs.map UInt8.toNat).drop i).take (ys.map UInt8.toNat).length = ys.map UInt8.toNat) := by
  have key : (Cx.bstr xs).extract i (i + (Cx.bstr ys).size) = Cx.bstr ys ↔ ((xs.map UInt8.toNat).drop i).take (ys.map UInt8.toNat).length = ys.map UInt8.toNat := by
    rw [← List.map_drop, ← List.map_take, map_inj8, List.length_map]
    constructor
    · intro h
      have := bstr_extract xs i (i + (Cx.bstr ys).size)
      rw [h, bstr_size, Nat.add_sub_cancel_left] at this
      exact this.symm
    · intro h
      apply ByteArray.ext
      apply Array.ext'
      rw [bstr_extract, bstr_size, Nat.add_sub_cancel_left, h]
      rfl
  by_cases h : (Cx.bstr xs).extract i (i + (Cx.bstr ys).size) = Cx.bstr ys
  · rw [decide_eq_true (key.1 h), ba_beq, decide_eq_true h]
  · rw [decide_eq_false (fun g => h (key.2 g)), ba_beq, decide_eq_false h]
theorem enc_len : ∀ xs : List UInt8, (xs.flatMap Cx.encB).length = xs.length
  | [] => rfl
  | x :: xs => by have := enc_len xs; simp only [List.flatMap_cons, List.length_append, this, Cx.encB, List.length_cons, List.length_nil]; omega
theorem run_loadB {P : Program} {w : World} : ∀ (l : List UInt8) (a : Addr) (acc : ByteArray), (∀ j x, l[j]? = some x → w.cell? (a.add j) = some (.int .u8 x.toNat)) →
    (Extern.Bytes.loadBytes a l.length acc).run P w = .ok ⟨acc.data ++ l.toArray⟩ w
  | [], a, acc, _ => by simp [Extern.Bytes.loadBytes]
  | x :: l, a, acc, h => by
    have h0 : w.cell? a = some (.int .u8 x.toNat) := by
      have := h 0 x rfl
      simpa [Addr.add] using this
    have ih := run_loadB (P := P) l (a.add 1) (acc.push x) (fun j y hy => by
      have := h (j + 1) y (by simpa using hy)
      have e : (a.add 1).add j = a.add (j + 1) := by
        unfold Addr.add
        by_cases hj : j = 0
        · subst hj; simp
        · simp [hj]; omega
      rw [e]; exact this)
    have hx : ((x.toNat : Int).toNat).toUInt8 = x := by simp
    simp only [List.length_cons, Extern.Bytes.loadBytes, Sem.run_bind, run_load, h0, Result.andThen, hx]
    rw [ih]
    congr 1
    apply ByteArray.ext
    simp [ByteArray.push]
section
variable {P : Program} {E : Env} {ok : OkL} {z : Int} {ρ : Rho} {X : Xz} {w0 w : World} {H : T Bk} {n ro : Nat} {S : T V} {a : Act} {v : V} {D : List Df} {kv : Kv} {kx : Kx} {L : List Rs}
theorem bytesOf_some {β : Type} {u : V} {x : Value} {k : List Nat → Option β} {y : β} (hm : Mr ok ro z ρ X w0 H n w) (hu : Vr ρ z u x) (h : bytesOf H u k = some y) : ∃ xs : List UInt8, k (xs.map UInt8.toNat) = some y ∧ (Extern.Bytes.bytesOf x).run P w = .ok (Cx.bstr xs) w := by
  unfold bytesOf at h
  replace h := lenS_some hu h
  rcases h with ⟨p, len, cap, rfl, h⟩ | ⟨s, rfl, h⟩
  · obtain ⟨p', len', cap', l, cs, he, h, hcs, ⟨hfl, hrd⟩, hlen⟩ := elems_some hm hu h
    cases he
    obtain ⟨b, hb, h⟩ := bnd_some.1 h
    obtain ⟨xs, rfl, rfl⟩ := unB_ok hcs hb
    refine ⟨xs, h, ?_⟩
    have hl : l.length = xs.length := by rw [hcs.len, enc_len]
    cases p with
    | none =>
      have hr : xs.flatMap Cx.encB = [] := hrd
      obtain rfl := Cx.nilB hr
      simp [Extern.Bytes.bytesOf, Cx.bstr]; rfl
    | some ad =>
      have hlx : len = xs.length := by
        rcases hlen with h1 | ⟨h1, _⟩
        · rw [Nat.mul_one] at h1; omega
        · cases h1
      subst hlx
      by_cases hne : xs = []
      · subst hne
        have := run_loadB (P := P) (w := w) [] ad .empty (fun j x h => by simp at h)
        simpa [Extern.Bytes.bytesOf, Cx.bstr] using this
      · obtain ⟨b', o, sp⟩ := ad
        have hsp : sp = none := hrd.1 fun e => hne (Cx.nilB e)
        subst hsp
        have := run_loadB (P := P) (w := w) xs ⟨b', o, none⟩ .empty (fun j x hj => by
          have := hrd.2 j (.int .u8 x.toNat) (by rw [Cx.encB_get, hj]; rfl)
          by_cases hj0 : j = 0
          · subst hj0; simpa [Addr.add] using this
          · simpa [Addr.add, hj0] using this)
        simpa [Extern.Bytes.bytesOf, Cx.bstr] using this
  · exfalso
    cases hu
    simp [elems, V.onS] at h
theorem some_find (xs ys : List UInt8) : (match (List.range ((Cx.bstr xs).size + 1 - (Cx.bstr ys).size)).find? (fun i => (Cx.bstr xs).extract i (i + (Cx.bstr ys).size) == Cx.bstr ys) with | some i => (pure (goInt i) : Sem Value) | none => pure (goInt (-1))) = pure (.int .i64 (findB (ys.map UInt8.toNat) (xs.map UInt8.toNat) 0)) := by
  have e : (fun i => (Cx.bstr xs).extract i (i + (Cx.bstr ys).size) == Cx.bstr ys) = fun i => decide (((xs.map UInt8.toNat).drop i).take (ys.map UInt8.toNat).length = ys.map UInt8.toNat) := funext fun i => ext_eq xs ys i
  rw [findB_spec, e, bstr_size, bstr_size, List.length_map, List.length_map]
  cases (List.range (xs.length + 1 - ys.length)).find? _ with
  | none => rfl
  | some j => simp only [Nat.zero_add]; rfl
theorem one_find (xs : List UInt8) (c : Nat) (hc : c ≤ 255) : (match (List.range (Cx.bstr xs).size).find? (fun i => (Cx.bstr xs)[i]! == c.toUInt8) with | some i => (pure (goInt i) : Sem Value) | none => pure (goInt (-1))) = pure (.int .i64 (findB [c] (xs.map UInt8.toNat) 0)) := by
  have e : ∀ i, i ∈ List.range xs.length → ((Cx.bstr xs)[i]! == c.toUInt8) = decide (((xs.map UInt8.toNat).drop i).take 1 = [c]) := fun i hi => by
    have hlt : i < xs.length := List.mem_range.1 hi
    have hget : (Cx.bstr xs)[i]! = xs[i] := by
      have : (Cx.bstr xs)[i]! = (Cx.bstr xs)[i]'(by rw [bstr_size]; exact hlt) := getElem!_pos _ _ _
      rw [this]; rfl
    rw [hget]
    have hcut : ((xs.map UInt8.toNat).drop i).take 1 = [xs[i].toNat] := by
      rw [List.drop_eq_getElem_cons (by simpa using hlt)]
      simp
    rw [hcut]
    have hcc : c.toUInt8.toNat = c := by
      show (UInt8.ofNat c).toNat = c
      rw [UInt8.toNat_ofNat']; omega
    by_cases h : xs[i] = c.toUInt8
    · rw [h]; simp [hcc]
    · have h' : ¬ xs[i].toNat = c := fun e => h (UInt8.toNat_inj.1 (e.trans hcc.symm))
      simp [h, h']
  have hf : (List.range (Cx.bstr xs).size).find? (fun i => (Cx.bstr xs)[i]! == c.toUInt8) = (List.range xs.length).find? (fun j => decide (((xs.map UInt8.toNat).drop j).take 1 = [c])) := by
    rw [bstr_size]
    have : ∀ l : List Nat, (∀ i ∈ l, ((Cx.bstr xs)[i]! == c.toUInt8) = decide (((xs.map UInt8.toNat).drop i).take 1 = [c])) → l.find? (fun i => (Cx.bstr xs)[i]! == c.toUInt8) = l.find? (fun j => decide (((xs.map UInt8.toNat).drop j).take 1 = [c])) := fun l => by
      induction l with
      | nil => intro _; rfl
      | cons x l ih =>
        intro h
        rw [List.find?_cons, List.find?_cons, h x (by simp), ih fun i hi => h i (by simp [hi])]
    exact this _ e
  rw [hf, findB_spec]
  simp only [List.length_map, List.length_cons, List.length_nil, Nat.zero_add, Nat.add_sub_cancel]
  cases (List.range xs.length).find? _ with
  | none => rfl
  | some j => rfl
/-- what the program's functions without a body answer -/
structure ExtOk (P : Program) (E : Env) : Prop where
  ix : ∀ (args : Array Value) (w w' : World) (y : Value), (Extern.BytealgIndex.index args).run P w = .ok y w' → (callFunc E.ix args).run P w = .ok (.value y) w'
  ib : ∀ (args : Array Value) (w w' : World) (y : Value), (Extern.BytealgIndexByte.indexByte args).run P w = .ok y w' → (callFunc E.ib args).run P w = .ok (.value y) w'
  mx : ∀ w : World, (globalAddr "internal/bytealg.MaxLen").run P w = .ok ⟨0, 0, none⟩ w
theorem cExt_ok (hE : EnvOk P E z) (hX : ExtOk P E) {f : Nat} {args : List V} {vs : List Value} (hv : Vs ρ z args vs) (hm : Mr ok ro z ρ X w0 H n w) (hg : Gl z X w0 ρ) (h : cExt E f args ⟨S, H, n, D⟩ kv kx = some L) :
    ∃ v y, Vr ρ z v y ∧ kv v ⟨S, H, n, D⟩ = some L ∧ (callFunc f ⟨vs⟩).run P w = .ok (.value y) w := by
  unfold cExt at h
  split at h
  · rename_i u u'
    cases hv with
    | cons h1 t =>
      cases t with
      | cons h2 t =>
        cases t
        rename_i x y
        rw [ite_eq] at h
        split at h
        · rename_i hf
          rw [beqN, decide_eq_true_eq] at hf
          subst hf
          rw [ite_eq] at h
          split at h
          · rename_i hmb
            obtain ⟨xs, h, hx⟩ := bytesOf_some (P := P) hm h1 h
            obtain ⟨ys, h, hy⟩ := bytesOf_some (P := P) hm h2 h
            obtain ⟨hl, h⟩ := ite_some.1 h
            simp only [lenL_eq, List.length_map, andB_eq, beqN, bleN, Bool.and_eq_true, decide_eq_true_eq] at hl
            have hz : (3 : Int) ≤ z := by have := hE.mb; rw [hmb] at this; simpa using this.symm
            obtain ⟨e, fz, hcell⟩ := hg.at hm
            refine ⟨_, _, .i, h, hX.ix _ _ _ _ ?_⟩
            have hld : (load ⟨0, 0, none⟩).run P w = .ok (.int .i64 z) w := by
              rw [run_load]; simp [World.cell?, hcell]
            have hmax : Extern.BytealgIndex.maxLen.run P w = .ok z w := by
              simp only [Extern.BytealgIndex.maxLen, Sem.run_bind, hX.mx, Result.andThen_ok, hld]
              simp [asInt, asIntOf]
            have hc1 : (decide ((Cx.bstr ys).size < 2) || decide (((Cx.bstr ys).size : Int) > z)) = false := by
              rw [bstr_size, hl.1]
              simp; omega
            have hc2 : ¬ (Cx.bstr xs).size ≥ 2 ^ 32 - 15 := by rw [bstr_size]; omega
            have e : Extern.BytealgIndex.index ⟨[x, y]⟩ = (do
                let a ← Extern.Bytes.bytesOf x
                let b ← Extern.Bytes.bytesOf y
                if b.size < 2 || (b.size : Int) > (← Extern.BytealgIndex.maxLen) then
                  unsupported (.noEntry "extern/internal/bytealg.Index.length")
                if a.size ≥ 2 ^ 32 - 15 then
                  unsupported (.noEntry "extern/internal/bytealg.Index: a haystack of 2^32 - 15 bytes or more")
                match (List.range (a.size + 1 - b.size)).find? fun i => a.extract i (i + b.size) == b with
                | some i => pure (goInt i)
                | none => pure (goInt (-1))) := rfl
            rw [e]
            simp only [Sem.run_bind, hx, hy, Result.andThen_ok, hmax, hc1, hc2, Bool.false_eq_true, if_false, Sem.run_pure]
            rw [some_find]; rfl
          · cases h
        · replace h := ite_some.1 h
          obtain ⟨hf, h⟩ := h
          rw [beqN, decide_eq_true_eq] at hf
          subst hf
          replace h := bytesOf_some (P := P) hm h1 h
          obtain ⟨xs, h, hx⟩ := h
          simp only [onI_some, natI_some, ite_some, eqK_eq, bleN, decide_eq_true_eq] at h
          obtain ⟨k, i, rfl, rfl, c, rfl, hc, h⟩ := h
          cases h2
          refine ⟨_, _, .i, h, hX.ib _ _ _ _ ?_⟩
          have e : Extern.BytealgIndexByte.indexByte ⟨[x, .int .u8 (c : Int)]⟩ = (do
              let b ← Extern.Bytes.bytesOf x
              let c ← Extern.Bytes.asByte (.int .u8 (c : Int))
              match (List.range b.size).find? fun i => b[i]! == c with
              | some i => pure (goInt i)
              | none => pure (goInt (-1))) := rfl
          have hasb : (Extern.Bytes.asByte (.int .u8 (c : Int))).run P w = .ok c.toUInt8 w := by simp [Extern.Bytes.asByte]
          rw [e]
          simp only [Sem.run_bind, hx, Result.andThen_ok, hasb]
          rw [one_find xs c hc]; rfl
  · cases h
end
end Go.Ev

namespace Go.Ev
set_option linter.unusedVariables false
set_option linter.unusedSimpArgs false
set_option linter.constructorNameAsVariable false
open Go
/-- where an interface's method leads: t's method of that name -/
structure IvOk (P : Program) (E : Env) (nm : String) : Prop where
  iv : ∀ t f, T.get E.iv t = some f → ∀ (v : Value) (args : Array Value) (w : World), (callMethod (.iface t v) nm args).run P w = (callFunc f (#[v] ++ args)).run P w
section
variable {P : Program} {E : Env} {ok : OkL} {okc : OkC} {z : Int} {ρ : Rho} {X : Xz} {w0 w : World} {H : T Bk} {n ro : Nat} {S : T V} {a : Act} {v : V} {D : List Df} {kv : Kv} {kx : Kx} {L : List Rs} {r : Option Nat} {op : Op} {ih : Tk → R}
theorem retC_ok {dst : Option Tmp} {next : Act → World → Prop} {Q : Exit → Act → World → Prop} (hD : Drs ρ z D a.defers) (hn : ∀ ds y w', KvP ok ro z X w0 ρ S kv L ds y w' → next ({ a with defers := ds }.put dst y) w') (hp : ∀ c w', KxP ok ro z X w0 ρ S D kx L c w' → Q (.panic c) a w') {e : Ending} (h : CallP ok ro z X w0 ρ (retC ⟨S, H, n, D⟩ kv kx) L e w) :
    match e with | .returned v => next (a.put dst v) w | .panicked c => Q (.panic c) a w | .outgrown => LetsOut Q := by
  obtain ⟨rs, ρ', L', h1, h2, h3, h4⟩ := h
  cases h4 with
  | ret hv hm => exact hn a.defers _ _ ⟨_, _, _, D, ρ', L', h1, h2, h3, hv, hD.mono h3, hm⟩
  | pan hv hm => exact hp _ _ ⟨_, _, _, ρ', L', _, h1, h2, h3, hv, rfl, hm⟩
/-- a function is called -/
theorem callF_ok (hE : EnvOk P E z) (hX : ExtOk P E) (hI : Snd P ok okc ro z ih) {f : Nat} {args : List V} {vs : List Value} (hv : Vs ρ z args vs) (hD : Drs ρ z D a.defers) (hm : Mr ok ro z ρ X w0 H n w) (hg : Gl z X w0 ρ) (hop : ∀ c, op ≠ .defer c)
    (hrun : ∀ dst ty pos af g, (execOp a.eval ⟨dst, op, ty, pos, af, g⟩).run P w = (callFunc f ⟨vs⟩).run P w) (h : callF E ih f args ⟨S, H, n, D⟩ kv kx = some L) : OpOk P ok ro z X w0 ρ S D kv kx L r a w op := fun dst ty pos af g next Q hn hp => by
  rw [Oper.semAt_eq _ _ _ hop, hrun]
  unfold callF at h
  rw [ite_eq] at h
  split at h
  · obtain ⟨hgo, hcall⟩ := hI.call _ _ _ _ _ _ _ _ _ _ _ h hv hm hg
    rw [Cx.run_isGo hgo]
    refine ⟨fun h => by simp [Cx.Fw] at h, Cx.calls_fw.2 (Calls.mono hcall fun e w' he => ?_)⟩
    have := retC_ok (dst := dst) (next := next) (Q := Q) hD hn hp he
    cases e <;> exact this
  · obtain ⟨v, y, h1, h2, h3⟩ := cExt_ok hE hX hv hm hg h
    rw [h3]
    exact hn a.defers y w ⟨v, H, n, D, ρ, L, h2, Sb.refl _, Rle.refl _, h1, hD, hm⟩
theorem cBuiltin_ok (hE : EnvOk P E z) (hro : E.ro = ro) {b : Builtin} {xs : Array Operand} {ts : Array TypeId} {vs : List V} (hx : ∀ x ∈ xs.toList, Ox ρ z S a x) (hD : Drs ρ z D a.defers) (hm : Mr ok ro z ρ X w0 H n w) (hv : evOs S xs.toList = some vs) (h : cBuiltin E b ts vs ⟨S, H, n, D⟩ kv kx = some L) :
    OpOk P ok ro z X w0 ρ S D kv kx L r a w (.call ⟨.builtin b, xs, ts⟩) := by
  have hd : ∀ c, Op.call ⟨.builtin b, xs, ts⟩ ≠ .defer c := fun c => by simp
  obtain ⟨ys, k1, k2, k3⟩ := evOs_ok hx hv
  have two : ∀ u u', vs = [u, u'] → ∃ x x', xs = #[x, x'] ∧ Vr ρ z u (a.eval x) ∧ Vr ρ z u' (a.eval x') := fun u u' e => by
    subst e
    obtain ⟨l⟩ := xs
    cases k3 with
    | cons h1 t => cases t with
      | cons h2 t =>
        cases t
        simp only at k2
        cases l with
        | nil => simp at k2
        | cons x l => cases l with
          | nil => simp at k2
          | cons x' l =>
            simp only [List.map_cons, List.cons.injEq, List.map_eq_nil_iff] at k2
            obtain ⟨rfl, rfl, rfl⟩ := k2
            exact ⟨x, x', rfl, h1, h2⟩
  have one : ∀ u, vs = [u] → ∃ x, xs = #[x] ∧ Vr ρ z u (a.eval x) := fun u e => by
    subst e
    obtain ⟨l⟩ := xs
    cases k3 with
    | cons h1 t =>
      cases t
      simp only at k2
      cases l with
      | nil => simp at k2
      | cons x l =>
        simp only [List.map_cons, List.cons.injEq, List.map_eq_nil_iff] at k2
        obtain ⟨rfl, rfl⟩ := k2
        exact ⟨x, rfl, h1⟩
  unfold cBuiltin at h
  split at h
  · rename_i u u'
    obtain ⟨x, x', rfl, g1, g2⟩ := two u u' rfl
    exact OpOk.eff hd hD (cAppend_ok hE hro g1 g2 hm h).append
  · rename_i u u'
    obtain ⟨x, x', rfl, g1, g2⟩ := two u u' rfl
    exact OpOk.eff hd hD (cCopy_ok hE hro g1 g2 hm h).copy
  · rename_i u
    obtain ⟨x, rfl, g1⟩ := one u rfl
    exact OpOk.eff hd hD (cClear_ok hE hro g1 hm h).clear
  · rename_i u u'
    obtain ⟨x, x', rfl, g1, g2⟩ := two u u' rfl
    exact OpOk.eff hd hD (cDelete_ok hE hro g1 g2 hm h).delete
  · obtain ⟨v, h1, h2⟩ := bnd_some.1 h
    exact OpOk.val hd hD hm (hBi_ok hE hx hm hv h1) h2
end
end Go.Ev

namespace Go.Ev
set_option linter.unusedVariables false
set_option linter.unusedSimpArgs false
set_option linter.constructorNameAsVariable false
open Go
section
variable {P : Program} {E : Env} {ok : OkL} {okc : OkC} {z : Int} {ρ : Rho} {X : Xz} {w0 w : World} {H : T Bk} {n ro nt : Nat} {S : T V} {a : Act} {v : V} {D : List Df} {kv : Kv} {kx : Kx} {L : List Rs} {r : Option Nat} {op : Op} {ih : Tk → R}
theorem Sr.put {tm : Array Value} (h : Sr ρ z nt S tm) {p : Nat} {v : V} {x : Value} (hp : p < nt) (hv : Vr ρ z v x) : Sr ρ z nt (T.put (some v) S p) (tm.setIfInBounds p x) := by
  refine ⟨by rw [Array.size_setIfInBounds]; exact h.1, fun i u hu => ?_⟩
  rw [T.get_put] at hu
  by_cases hi : i = p
  · rw [if_pos hi] at hu
    cases hu
    subst hi
    exact ⟨x, by rw [Array.getElem?_setIfInBounds]; simp [h.1, hp], hv⟩
  · rw [if_neg hi] at hu
    obtain ⟨y, h1, h2⟩ := h.2 i u hu
    exact ⟨y, by rw [Array.getElem?_setIfInBounds, if_neg (fun e => hi e.symm)]; exact h1, h2⟩
theorem putPs_ok : ∀ {ps : List Nat} {args : List V} {vs : List Value} {S S' : T V} {tm : Array Value}, Sr ρ z nt S tm → Vs ρ z args vs → (∀ p ∈ ps, p < nt) → putPs ps args S = some S' → vs.length = ps.length ∧ Sr ρ z nt S' ((ps.zip vs).foldl (fun tm x => tm.setIfInBounds x.1 x.2) tm)
  | [], args, vs, S, S', tm, h, hv, hp, e => by
    cases hv with
    | nil => cases e; exact ⟨rfl, h⟩
    | cons _ _ => cases e
  | p :: ps, args, vs, S, S', tm, h, hv, hp, e => by
    cases hv with
    | nil => cases e
    | cons h1 t =>
      obtain ⟨g1, g2⟩ := putPs_ok (h.put (hp p (by simp)) h1) t (fun q hq => hp q (by simp [hq])) e
      exact ⟨by simp [g1], g2⟩
theorem zip_fold (ps : List Nat) (vs : List Value) (tm : Array Value) : (((⟨ps⟩ : Array Nat).zip ⟨vs⟩).foldl (fun tm x => tm.setIfInBounds x.1 x.2) tm) = (ps.zip vs).foldl (fun tm x => tm.setIfInBounds x.1 x.2) tm := by
  rw [← Array.foldl_toList]; simp
theorem wOk_some {β : Type} {id : Nat} {k : Option β} {y : β} : wOk E id k = some y ↔ E.ro ≤ id ∧ k = some y := by
  unfold wOk; rw [ite_some, bleN, decide_eq_true_eq]
/-- one round -/
theorem cRound_ok (hro : E.ro = ro) (hI : Snd P ok okc ro z ih) (hok : ∀ f nt asg body ps, ok f nt asg body ps → okc f nt asg ∧ okc f nt body ∧ ∀ p ∈ ps, p < nt) {l m : Nat} {B N : Nat} {args : List V} {vs : List Value} (hl : ρ l = some (m, B, N)) (hv : Vs ρ z args vs) (hD : Drs ρ z D a.defers) (hm : Mr ok ro z ρ X w0 H n w) (hg : Gl z X w0 ρ) (hop : ∀ c, op ≠ .defer c)
    (hrun : ∀ dst ty pos af g, (execOp a.eval ⟨dst, op, ty, pos, af, g⟩).run P w = (Instr.yield m ⟨vs⟩).run P w) (h : cRound E ih l args ⟨S, H, n, D⟩ kv kx = some L) : OpOk P ok ro z X w0 ρ S D kv kx L r a w op := fun dst ty pos af g next Q hn hp => by
  rw [Oper.semAt_eq _ _ _ hop, hrun]
  unfold cRound at h
  replace h := wOk_some.1 h
  obtain ⟨hle, h⟩ := h
  rw [hro] at hle
  simp only [blk_some, onLoop_some, bnd_some] at h
  obtain ⟨b, hb, ls, pe, f, Sl, ps, asg, body, dfr, rfl, S', hS', h⟩ := h
  obtain ⟨o, ho, hbr⟩ := hm.own _ _ _ hb hl
  cases hbr with
  | loop hS hd hk =>
    rename_i nt fn tm md Bd Nd
    obtain ⟨k1, k2, k3⟩ := hok _ _ _ _ _ hk
    obtain ⟨q1, q2⟩ := putPs_ok hS hv k3 hS'
    rw [run_yield ho (by simpa using q1)]
    refine ⟨fun h => by simp [Cx.Fw] at h, ?_⟩
    have hfold : (((⟨ps⟩ : Array Nat).zip ⟨vs⟩).foldl (fun tmps (x : Nat × Value) => match x with | (t, a) => tmps.setIfInBounds t a) tm) = (ps.zip vs).foldl (fun tm x => tm.setIfInBounds x.1 x.2) tm := zip_fold ps vs tm
    rw [hfold]
    refine roundIn_of_wpIn (F := Cx.Fw r) trivial ?_
    have hF : (Cx.Fw r).inRound m = Cx.Fw (some m) := rfl
    rw [hF]
    have hrd : RdOk ρ (some l) (some m) := ⟨N, hl⟩
    have hcode := hI.code asg ⟨f, some l⟩ ⟨S', H, n, []⟩ _ L ρ X w0 w { tmps := (ps.zip vs).foldl (fun tm x => tm.setIfInBounds x.1 x.2) tm, defers := [] } nt (some m) h k1 ⟨q2, .nil, hm, hg⟩ hrd
    refine wpIn_mono hcode fun e a1 w1 hq => ?_
    cases e with
    | ret => obtain ⟨st', ρ', L', h1, _⟩ := hq; cases h1
    | exit i => obtain ⟨st', ρ', L', h1, _⟩ := hq; cases h1
    | panic c => obtain ⟨st', ρ', L', v, x, h1, _⟩ := hq; cases h1
    | goto l => exact hq
    | outgrown => exact hq.elim
    | normal =>
      obtain ⟨s1, ρ1, L1, h1, hs1, hr1, hst1⟩ := hq
      replace h1 : (blk s1.H l fun b1 => b1.onLoop fun ls1 pe1 f1 S1 ps1 asg1 body1 dfr1 => ite_ (isReady ls1)
        (ih (.code body ⟨f, some l⟩ ⟨s1.S, T.put (some (.loop .busy pe1 f1 S1 ps1 asg1 body1 dfr1)) s1.H l, s1.n, s1.D⟩ fun e s2 => bnd (jumpOf e) fun j => blk s2.H l fun b2 => b2.onLoop fun ls2 pe2 f2 S2 ps2 asg2 body2 dfr2 =>
          kv (.b (Option.isNone j)) ⟨S, T.put (some (.loop (ite_ (Option.isNone j) .ready .done) j f2 S2 ps2 asg2 body2 dfr2)) s2.H l, s2.n, D⟩)) none) = some L1 := h1
      simp only [blk_some, onLoop_some, ite_some] at h1
      obtain ⟨b1, hb1, ls1, pe1, f1, S1, ps1, asg1, body1, dfr1, rfl, hready, h1⟩ := h1
      have hl1 := hr1 _ _ hl
      obtain ⟨o1, ho1, hbr1⟩ := hst1.mem.own _ _ _ hb1 hl1
      have hls : ls1 = .ready := by cases ls1 <;> first | rfl | cases hready
      subst hls
      cases hbr1 with
      | loop hS1 hd1 hk1 =>
        rename_i nt1 fn1 tm1 md1 Bd1 Nd1
        have hm1 := hst1.mem.set_obj (b' := .loop .busy pe1 f1 S1 ps1 asg1 body1 dfr1) hb1 hl1 hle ho1 (.loop (fn := fn1) hS1 hd1 hk1)
        refine ⟨_, run_beginRound ho1 rfl, ?_⟩
        have hcode2 := hI.code body ⟨f, some l⟩ _ _ L1 ρ1 X w0 _ a1 nt (some m) h1 k2 ⟨hst1.tm, hst1.df, hm1, hst1.gl⟩ (hrd.mono hr1)
        refine wpIn_mono hcode2 fun e a2 w2 hq2 => ?_
        have fin : ∀ (ex : Ex) (j : Option Code), jumpOf ex = some j → (∃ st ρ' L', (bnd (jumpOf ex) fun j => blk st.H l fun b2 => b2.onLoop fun ls2 pe2 f2 S2 ps2 asg2 body2 dfr2 =>
          kv (.b (Option.isNone j)) ⟨S, T.put (some (.loop (ite_ (Option.isNone j) .ready .done) j f2 S2 ps2 asg2 body2 dfr2)) st.H l, st.n, D⟩) = some L' ∧ Sb L' L1 ∧ Rle ρ1 ρ' ∧ StOk ok ro z X w0 ρ' nt st a2 w2) → ∃ v w', (Instr.endRound m j).run P w2 = .ok v w' ∧ next (a.put dst v) w' := by
          intro ex j hj ⟨s2, ρ2, L2, h2, hs2, hr2, hst2⟩
          rw [hj] at h2
          replace h2 : (blk s2.H l fun b2 => b2.onLoop fun ls2 pe2 f2 S2 ps2 asg2 body2 dfr2 =>
            kv (.b (Option.isNone j)) ⟨S, T.put (some (.loop (ite_ (Option.isNone j) .ready .done) j f2 S2 ps2 asg2 body2 dfr2)) s2.H l, s2.n, D⟩) = some L2 := h2
          simp only [blk_some, onLoop_some] at h2
          obtain ⟨b2, hb2, ls2, pe2, f2, S2, ps2, asg2, body2, dfr2, rfl, h2⟩ := h2
          have hl2 := hr2 _ _ hl1
          obtain ⟨o2, ho2, hbr2⟩ := hst2.mem.own _ _ _ hb2 hl2
          cases hbr2 with
          | loop hS2 hd2 hk2 =>
            rename_i nt2 fn2 tm2 md2 Bd2 Nd2
            have hm2 := hst2.mem.set_obj (b' := .loop (ite_ (Option.isNone j) .ready .done) j f2 S2 ps2 asg2 body2 dfr2) hb2 hl2 hle ho2 (.loop (fn := fn2) hS2 hd2 hk2)
            refine ⟨_, _, run_endRound j ho2, ?_⟩
            refine hn a.defers _ _ ⟨_, _, _, D, ρ2, L2, h2, (hs2.trans hs1), hr1.trans hr2, .b, hD.mono (hr1.trans hr2), ?_⟩
            have e : (ite_ (Option.isNone j) LoopState.ready LoopState.done) = if j.isNone then .ready else .done := ite_eq _ _ _
            rw [e] at hm2 ⊢
            exact hm2
        cases e with
        | normal => exact fin .norm none rfl hq2
        | ret => exact fin .ret (some .ret) rfl hq2
        | exit i => exact fin (.ex i) (some (.exit i)) rfl hq2
        | panic c => obtain ⟨st', ρ', L', v, x, h3, _⟩ := hq2; cases h3
        | goto l => exact hq2.elim
        | outgrown => exact hq2.elim
theorem cCall_ok (hE : EnvOk P E z) (hX : ExtOk P E) {nm : String} (hV : IvOk P E nm) (hro : E.ro = ro) (hI : Snd P ok okc ro z ih) (hok : ∀ f nt asg body ps, ok f nt asg body ps → okc f nt asg ∧ okc f nt body ∧ ∀ p ∈ ps, p < nt) {c : Call} (hnm : ∀ q m, c.callee = .invoke q m → m = nm)
    (hx : ∀ x ∈ c.operands, Ox ρ z S a x) (hD : Drs ρ z D a.defers) (hm : Mr ok ro z ρ X w0 H n w) (hg : Gl z X w0 ρ) (h : cCall E ih c ⟨S, H, n, D⟩ kv kx = some L) : OpOk P ok ro z X w0 ρ S D kv kx L r a w (.call c) := by
  have hd : ∀ c', Op.call c ≠ .defer c' := fun c => by simp
  obtain ⟨vs, hvs, h⟩ := bnd_some.1 h
  obtain ⟨ce, as, ts⟩ := c
  have hxs : ∀ x ∈ as.toList, Ox ρ z S a x := fun x hx' => hx x (by
    cases ce <;> simp [Call.operands] <;> first | (right; simpa using hx') | simpa using hx')
  obtain ⟨ys, k1, k2, k3⟩ := evOs_ok (a := a) hxs hvs
  have h4 : as.map a.eval = ⟨ys⟩ := by obtain ⟨l⟩ := as; simpa using k2
  cases ce with
  | value q =>
    replace h : (bnd (evO S q) fun fv => fv.onF (fun f fi ca => callF E ih f (appL (appL fi vs) ca) ⟨S, H, n, D⟩ kv kx) (fun l => cRound E ih l vs ⟨S, H, n, D⟩ kv kx)) = some L := h
    obtain ⟨fv, hfv, h⟩ := bnd_some.1 h
    obtain ⟨q', h1, h2, h3⟩ := (hx q (by simp [Call.operands])).ev hfv
    simp only [onF_some] at h
    rcases h with ⟨f, fi, ca, rfl, h⟩ | ⟨l, rfl, h⟩
    · obtain ⟨fi', ca', rfl, f1, f2⟩ := h3.f_inv
      rw [appL_eq, appL_eq] at h
      refine callF_ok hE hX hI ((f1.app k3).app f2) hD hm hg hd (fun dst ty pos af g => ?_) h
      simp [execOp, resolve, h2, h4, Deferred.ofValue, invoke]
    · cases h3 with
      | y hl =>
        refine cRound_ok hro hI hok hl k3 hD hm hg hd (fun dst ty pos af g => ?_) h
        simp [execOp, resolve, h2, h4, Deferred.ofValue, invoke]
  | invoke q m =>
    obtain rfl := hnm q m rfl
    replace h : (bnd (evO S q) fun v => v.onIf (fun t x => bnd (T.get E.iv t) fun f => callF E ih f (.cons x vs) ⟨S, H, n, D⟩ kv kx) none) = some L := h
    obtain ⟨v, hv, h⟩ := bnd_some.1 h
    obtain ⟨q', h1, h2, h3⟩ := (hx q (by simp [Call.operands])).ev hv
    simp only [onIf_some, reduceCtorEq, and_false, or_false, bnd_some] at h
    obtain ⟨t, x, rfl, f, hf, h⟩ := h
    cases h3 with
    | iv h5 =>
      rename_i v'
      refine callF_ok hE hX hI (.cons h5 k3) hD hm hg hd (fun dst ty pos af g => ?_) h
      have e := hV.iv t f hf v' (⟨ys⟩ : Array Value) w
      have e2 : (#[v'] ++ (⟨ys⟩ : Array Value)) = ⟨v' :: ys⟩ := by apply Array.ext'; simp
      rw [e2] at e
      have e3 : (⟨ys⟩ : Array Value).extract 0 ys.length = ⟨ys⟩ := by simp
      have e4 : ((#[Value.iface t v'] ++ (⟨ys⟩ : Array Value)).extract 1 (#[Value.iface t v'] ++ (⟨ys⟩ : Array Value)).size) = ⟨ys⟩ := by apply Array.ext'; simp
      simp only [execOp, resolve, h2, h4, Sem.run_bind, Sem.run_pure, Result.andThen_ok, invoke]
      have e5 : (#[Value.iface t v'] ++ (⟨ys⟩ : Array Value))[0]? = some (Value.iface t v') := by simp
      simp only [e5, e4]
      exact e
  | builtin b => exact cBuiltin_ok hE hro hxs hD hm hvs h
/-- one operation -/
theorem act_ok (hE : EnvOk P E z) (hX : ExtOk P E) {nm : String} (hV : IvOk P E nm) (hro : E.ro = ro) (hI : Snd P ok okc ro z ih) (hok : ∀ f nt asg body ps, ok f nt asg body ps → okc f nt asg ∧ okc f nt body ∧ ∀ p ∈ ps, p < nt) {ct : Ct} (hr : RdOk ρ ct.r r) (hnm : ∀ q m as ts, op = .call ⟨.invoke q m, as, ts⟩ → m = nm)
    (hx : ∀ x ∈ op.operands, Ox ρ z S a x) (hD : Drs ρ z D a.defers) (hm : Mr ok ro z ρ X w0 H n w) (hg : Gl z X w0 ρ) (h : act E ih ct op ⟨S, H, n, D⟩ kv kx = some L) : OpOk P ok ro z X w0 ρ S D kv kx L r a w op := by
  cases op with
  | move x => exact OpOk.pv (by simp) hD hm (fun v e => let ⟨y, h1, h2, _⟩ := hMove_ok (hx x (by simp [Op.operands])) e; ⟨y, h1, h2⟩) h
  | assign x => exact OpOk.pv (by simp) hD hm (fun v e => let ⟨y, h1, _, h2⟩ := hMove_ok (hx x (by simp [Op.operands])) e; ⟨y, h1, h2⟩) h
  | pick c x y => exact OpOk.pv (by simp) hD hm (fun v e => hPick_ok (hx c (by simp [Op.operands])) (hx x (by simp [Op.operands])) (hx y (by simp [Op.operands])) e) h
  | alloc t => exact OpOk.eff (by simp) hD (cAlloc_ok (kx := kx) hE hm h)
  | box t x => exact OpOk.eff (by simp) hD (cBox_ok (kx := kx) (hx x (by simp [Op.operands])) hm h)
  | build t ps => exact OpOk.pv (by simp) hD hm (fun v e => hBuild_ok hE (fun p hp => hx p.2 (by simp [Op.operands]; exact ⟨p.1, by simpa using hp⟩)) e) h
  | buildSlice t len ps => exact OpOk.eff (by simp) hD (cBuildSlice_ok (kx := kx) hE (fun p hp => hx p.2 (by simp [Op.operands]; exact ⟨p.1, by simpa using hp⟩)) hm h)
  | insert t x k y => exact OpOk.eff (by simp) hD (cMapUpdate_ok (kx := kx) hE hro (hx x (by simp [Op.operands])) (hx k (by simp [Op.operands])) (hx y (by simp [Op.operands])) hm h).2
  | load t x => exact OpOk.pv (by simp) hD hm (fun v e => hLoad_ok hE (hx x (by simp [Op.operands])) hm e) h
  | store t x y => exact OpOk.eff (by simp) hD (cStore_ok (kx := kx) hE hro (hx x (by simp [Op.operands])) (hx y (by simp [Op.operands])) hm h)
  | ready g => cases h
  | waits g => cases h
  | nilCheck x => exact OpOk.pv (by simp) hD hm (fun v e => hNil_ok (hx x (by simp [Op.operands])) e) h
  | binOp o t x y yt => exact OpOk.pv (by simp) hD hm (fun v e => hBin_ok hE (hx x (by simp [Op.operands])) (hx y (by simp [Op.operands])) e) h
  | unOp o t x => exact OpOk.pv (by simp) hD hm (fun v e => hUn_ok (hx x (by simp [Op.operands])) e) h
  | convert s t x =>
    obtain ⟨v, h1, h2⟩ := bnd_some.1 h
    obtain ⟨y, w', g1, g2, g3⟩ := hConv_ok hE hro (hx x (by simp [Op.operands])) hm h1
    exact OpOk.eff (by simp) hD ⟨v, y, w', H, n, ρ, L, h2, Sb.refl _, Rle.refl _, g1, g2, fun dst ty pos af g => .inl (g3 dst ty pos af g)⟩
  | sliceToArrayPointer t x => cases h
  | makeInterface t x => exact OpOk.pv (by simp) hD hm (fun v e => hIface_ok hE (hx x (by simp [Op.operands])) e) h
  | makeFunc f fi ca => exact OpOk.pv (by simp) hD hm (fun v e => hFunc_ok (fun x hx' => hx x (by simp [Op.operands]; left; simpa using hx')) (fun x hx' => hx x (by simp [Op.operands]; right; simpa using hx')) e) h
  | makeMap t q => exact OpOk.eff (by simp) hD (cMakeMap_ok (kx := kx) hm h)
  | makeChan t x => cases h
  | makeSlice t x y => exact OpOk.eff (by simp) hD (cMakeSlice_ok (kx := kx) hE (hx x (by simp [Op.operands])) (hx y (by simp [Op.operands])) hm h)
  | slice t x l h' m => exact OpOk.pv (by simp) hD hm (fun v e => hSlice_ok hE (hx x (by simp [Op.operands])) (fun o e => hx o (by simp [Op.operands, e])) (fun o e => hx o (by simp [Op.operands, e])) (fun o e => hx o (by simp [Op.operands, e])) e) h
  | fieldAddr t x i => exact OpOk.pv (by simp) hD hm (fun v e => hFieldAddr_ok hE (hx x (by simp [Op.operands])) e) h
  | field t x i => exact OpOk.pv (by simp) hD hm (fun v e => hField_ok hE (hx x (by simp [Op.operands])) e) h
  | indexAddr t x i => exact OpOk.pv (by simp) hD hm (fun v e => hIndexAddr_ok hE (hx x (by simp [Op.operands])) (hx i (by simp [Op.operands])) e) h
  | index t x i => exact OpOk.pv (by simp) hD hm (fun v e => hIndex_ok hE (hx x (by simp [Op.operands])) (hx i (by simp [Op.operands])) e) h
  | lookup t x k c => exact OpOk.pv (by simp) hD hm (fun v e => hLookup_ok hE (hx x (by simp [Op.operands])) (hx k (by simp [Op.operands])) hm e) h
  | mapUpdate t x k y => exact OpOk.eff (by simp) hD (cMapUpdate_ok (kx := kx) hE hro (hx x (by simp [Op.operands])) (hx k (by simp [Op.operands])) (hx y (by simp [Op.operands])) hm h).1
  | mapEntry t x k => cases h
  | entryStore t x k y => cases h
  | range t x => exact OpOk.eff (by simp) hD (cRange_ok (kx := kx) hE (hx x (by simp [Op.operands])) hm h)
  | next x s => exact OpOk.eff (by simp) hD (cNext_ok (E := E) (kx := kx) hro (hx x (by simp [Op.operands])) hm h)
  | entry x => exact OpOk.pv (by simp) hD hm (fun v e => hEntry_ok (hx x (by simp [Op.operands])) hm e) h
  | typeAssert x t t' c => exact OpOk.pv (by simp) hD hm (fun v e => hAssert_ok hE (hx x (by simp [Op.operands])) e) h
  | extract x i => exact OpOk.pv (by simp) hD hm (fun v e => hExtract_ok (hx x (by simp [Op.operands])) e) h
  | call c => exact cCall_ok hE hX hV hro hI hok (fun q m e => by obtain ⟨ce, as, ts⟩ := c; cases e; exact hnm q m as ts rfl) (fun x hx' => hx x hx') hD hm hg h
  | go c => cases h
  | defer c => exact cDefer_ok hr (fun x hx' => hx x hx') hD hm h
  | panic x => exact cPanic_ok (hx x (by simp [Op.operands])) hm h
  | send x y => cases h
  | recv t x c => cases h
  | select cs b => cases h
end
end Go.Ev

namespace Go.Ev
set_option linter.unusedVariables false
set_option linter.unusedSimpArgs false
set_option linter.constructorNameAsVariable false
open Go
/-- an operation's static check: its slot; the one name of a method -/
structure OkOper (nt : Nat) (nm : String) (o : Oper) : Prop where
  dst : ∀ d, o.dst = some d → d < nt
  inv : ∀ q m as ts, o.op = .call ⟨.invoke q m, as, ts⟩ → m = nm
section
variable {P : Program} {E : Env} {ok : OkL} {okc : OkC} {z : Int} {ρ : Rho} {X : Xz} {w0 w : World} {H : T Bk} {n ro nt : Nat} {S : T V} {a : Act} {v : V} {D : List Df} {kv : Kv} {kx : Kx} {L : List Rs} {r : Option Nat} {op : Op} {ih : Tk → R} {ops : Array Oper} {k : Ex → St → R}
theorem want_ok {o : Oper} {b : Bool} (hg : ∀ g og d v, o.guard = some g → ops[g.1]? = some og → og.dst = some d → T.get S d = some v → ∃ x, a.tmps[d]? = some x ∧ Vr ρ z v x) (h : want ops.toList S o.guard = some b) : Region.wanted o (yielded ops a.tmps) = b := by
  unfold want at h
  rw [optR_eq] at h
  unfold Region.wanted
  cases hgd : o.guard with
  | none => rw [hgd] at h; cases h; rfl
  | some g =>
    obtain ⟨j, wt⟩ := g
    rw [hgd] at h
    simp only [bnd_some, nthL_eq] at h
    obtain ⟨og, ho, d, hd, v, hv, h⟩ := h
    have ho' : ops[j]? = some og := by simpa using ho
    obtain ⟨x, hx, hvx⟩ := hg _ og d v hgd ho' hd hv
    have hy : yielded ops a.tmps j = (match some x with | some (.bool b) => some b | _ => none) := by
      unfold yielded; rw [ho']; simp only [Option.bind_some, hd, hx]; cases x <;> rfl
    simp only [hy]
    rw [ite_eq] at h
    split at h
    · obtain ⟨c, rfl, h⟩ := onB_some.1 h
      cases hvx
      cases h
      rw [eqB_eq]
      cases c <;> cases wt <;> rfl
    · obtain ⟨h1, h⟩ := ite_some.1 h
      cases h
      have : ∀ b, x ≠ .bool b := fun b e => by subst e; cases hvx; simp [tagV] at h1
      cases x <;> first | rfl | exact absurd rfl (this _)
theorem putS_eq (d : Option Tmp) (v : V) : putS ⟨S, H, n, D⟩ d v = ⟨match d with | some d => T.put (some v) S d | none => S, H, n, D⟩ := by cases d <;> rfl
theorem StOk.put {st : St} (h : StOk ok ro z X w0 ρ nt st a w) {d : Option Tmp} (hd : ∀ t, d = some t → t < nt) {v : V} {y : Value} (hv : Vr ρ z v y) : StOk ok ro z X w0 ρ nt (putS st d v) (a.put d y) w := by
  obtain ⟨S, H, n, D⟩ := st
  cases d with
  | none => exact h
  | some d => exact ⟨h.tm.put (hd d rfl) hv, h.df, h.mem, h.gl⟩
/-- a region in the order of the text -/
theorem evOps_ok (hE : EnvOk P E z) (hX : ExtOk P E) {nm : String} (hV : IvOk P E nm) (hro : E.ro = ro) (hI : Snd P ok okc ro z ih) (hok : ∀ f nt asg body ps, ok f nt asg body ps → okc f nt asg ∧ okc f nt body ∧ ∀ p ∈ ps, p < nt) {ct : Ct} (hop : ∀ o ∈ ops.toList, OkOper nt nm o) {Q : Exit → Act → World → Prop} :
    ∀ (os : List Oper) (i : Nat) (st : St) (a : Act) (w : World) (L : List Rs) (ρ : Rho), ops.toList.drop i = os → RdOk ρ ct.r r → evOps ops.toList (act E ih ct) k os st = some L → StOk ok ro z X w0 ρ nt st a w → (∀ e a w, CodeP ok ro z X w0 ρ nt k L e a w → Q e a w) →
      wpOpsIn (Cx.Fw r) 0 P ops Q (List.range' i os.length) a w
  | [], i, st, a, w, L, ρ, hos, hr, h, hst, hQ => hQ .normal a w ⟨st, ρ, L, h, Sb.refl _, Rle.refl _, hst⟩
  | o :: os, i, st, a, w, L, ρ, hos, hr, h, hst, hQ => by
    have ho : ops[i]? = some o := by
      have : (ops.toList.drop i)[0]? = some o := by rw [hos]; rfl
      rw [List.getElem?_drop] at this
      simpa using this
    have hos' : ops.toList.drop (i + 1) = os := by
      have : (ops.toList.drop i).drop 1 = os := by rw [hos]; rfl
      rwa [List.drop_drop] at this
    have hmem : o ∈ ops.toList := by
      have := Array.mem_of_getElem? ho
      simpa using this
    have hoo := hop o hmem
    obtain ⟨S, H, n, D⟩ := st
    replace h : (bnd (want ops.toList S o.guard) fun b => ite_ b (act E ih ct o.op ⟨S, H, n, D⟩ (fun v st => evOps ops.toList (act E ih ct) k os (putS st o.dst v)) k) (evOps ops.toList (act E ih ct) k os (putS ⟨S, H, n, D⟩ o.dst undefV))) = some L := h
    obtain ⟨b, hb, h⟩ := bnd_some.1 h
    have hw := want_ok (a := a) (ρ := ρ) (z := z) (fun g og d v _ _ _ hv => hst.tm.2 d v hv) hb
    rw [List.length_cons, List.range'_succ, wpOpsIn_cons]
    unfold wpOpIn
    simp only [ho, hw]
    cases b with
    | false =>
      replace h : evOps ops.toList (act E ih ct) k os (putS ⟨S, H, n, D⟩ o.dst undefV) = some L := h
      simp only [Bool.false_eq_true, if_false]
      exact ⟨fun _ _ => trivial, evOps_ok hE hX hV hro hI hok hop os (i + 1) _ _ w L ρ hos' hr h (hst.put hoo.dst Vr.undef) hQ⟩
    | true =>
      replace h : act E ih ct o.op ⟨S, H, n, D⟩ (fun v st => evOps ops.toList (act E ih ct) k os (putS st o.dst v)) k = some L := h
      simp only [if_true]
      have hopk := act_ok hE hX hV hro hI hok (a := a) (r := r) hr hoo.inv (fun x _ => Ox.of hst.tm hst.gl.1 x) hst.df hst.mem hst.gl h
      refine ⟨fun _ _ => trivial, hopk o.dst o.type o.pos o.after o.guard _ _ (fun ds y w' hk => ?_) (fun c w' hk => ?_)⟩
      · obtain ⟨v, H', n', D', ρ', L', h1, h2, h3, h4, h5, h6⟩ := hk
        exact evOps_ok hE hX hV hro hI hok hop os (i + 1) _ _ w' L' ρ' hos' (hr.mono h3) h1 (StOk.put (st := ⟨S, H', n', D'⟩) (a := { a with defers := ds }) ⟨hst.tm.mono h3, h5, h6, hst.gl.mono h3⟩ hoo.dst h4) (fun e a w h => hQ e a w (h.sub h2 h3))
      · obtain ⟨v, H', n', ρ', L', x, h1, h2, h3, h4, h5, h6⟩ := hk
        exact hQ _ _ _ ⟨⟨S, H', n', D⟩, ρ', L', v, x, h1, h2, h3, h4, h5, hst.df.mono h3, h6, hst.gl.mono h3, hst.tm.mono h3⟩
theorem region_text_ok (hE : EnvOk P E z) (hX : ExtOk P E) {nm : String} (hV : IvOk P E nm) (hro : E.ro = ro) (hI : Snd P ok okc ro z ih) (hok : ∀ f nt asg body ps, ok f nt asg body ps → okc f nt asg ∧ okc f nt body ∧ ∀ p ∈ ps, p < nt) {ct : Ct} (hop : ∀ o ∈ ops.toList, OkOper nt nm o) {id : Nat} {st : St} (hr : RdOk ρ ct.r r)
    (h : evCode E ih (.region id ops false) ct st k = some L) (hst : StOk ok ro z X w0 ρ nt st a w) : (Code.region id ops false).wpIn (Cx.Fw r) 0 P (CodeP ok ro z X w0 ρ nt k L) a w := by
  refine wpIn_region ?_
  have := evOps_ok hE hX hV hro hI hok hop (Q := CodeP ok ro z X w0 ρ nt k L) ops.toList 0 st a w L ρ rfl hr h hst (fun _ _ _ h => h)
  rw [List.range_eq_range']
  simpa using this
end
end Go.Ev

namespace Go.Ev
set_option linter.unusedVariables false
set_option linter.unusedSimpArgs false
set_option linter.constructorNameAsVariable false
open Go
section
variable {P : Program} {E : Env} {ok : OkL} {okc : OkC} {z : Int} {ρ : Rho} {X : Xz} {w0 w : World} {H : T Bk} {n ro nt : Nat} {S : T V} {a : Act} {v : V} {D : List Df} {kv : Kv} {kx : Kx} {L : List Rs} {r : Option Nat} {op : Op} {ih : Tk → R} {ops : Array Oper} {k : Ex → St → R}
theorem run_enterLoop_inner {fn : FuncId} {tmps : Array Value} {ps : Array Tmp} {asg body : Code} {l : Nat} {rc : Loop} (h : w.heap[l]? = some (.loop rc)) :
    (Instr.enterLoop fn tmps ps asg body (some l)).run P w = .ok (w.heap.size, []) (w.alloc (.loop { state := .ready, pending := none, fn, tmps, params := ps, assign := asg, body, defers := rc.defers })) := by
  unfold Instr.enterLoop
  simp only [Sem.run_bind, run_getLoop h, Result.andThen_ok, run_newObj_alloc, Sem.run_pure]
/-- behind the function that was ranged over -/
theorem rfK_ok (hro : E.ro = ro) {l m : Nat} {N : Nat} {ρ1 : Rho} {mark : List Deferred} {st : St} {D1 : List Df} (hle : ro ≤ l) (hr1 : Rle ρ ρ1) (hl : ρ1 l = some (m, 0, N)) (hS : Sr ρ z nt st.S a.tmps) (hD : Drs ρ1 z D1 (mark ++ a.defers)) (hg : Gl z X w0 ρ) {e : Ending} {w3 : World}
    (h : CallP ok ro z X w0 ρ1 (rfK l st D1 k) L e w3) : rangePost (Cx.Fw r) 0 P m (CodeP ok ro z X w0 ρ nt k L) { a with defers := mark ++ a.defers } e w3 := by
  obtain ⟨rs, ρ2, L2, h1, h2, h3, h4⟩ := h
  cases h4 with
  | pan hv hm => exact ⟨_, ρ2, L2, _, _, h1, h2, hr1.trans h3, hv, rfl, hD.mono h3, hm, hg.mono (hr1.trans h3), hS.mono (hr1.trans h3)⟩
  | ret hv hm =>
    rename_i v x H2 n2
    replace h1 : (blk H2 l fun b => b.onLoop fun ls pe f S ps asg body dfr => ite_ (isBusy ls) none (Option.casesOn (motive := fun _ => R) pe (k .norm ⟨st.S, T.put (some (.loop .exhausted pe f S ps asg body dfr)) H2 l, n2, D1⟩)
      (fun c => jmpK k c ⟨st.S, T.put (some (.loop .exhausted pe f S ps asg body dfr)) H2 l, n2, D1⟩))) = some L2 := h1
    simp only [blk_some, onLoop_some] at h1
    obtain ⟨b, hb, ls, pe, f, S2, ps, asg, body, dfr, rfl, h1⟩ := h1
    rw [ite_eq] at h1
    split at h1
    · cases h1
    rename_i hbusy
    have hl2 := h3 _ _ hl
    obtain ⟨o, ho, hbr⟩ := hm.own _ _ _ hb hl2
    cases hbr with
    | loop hS2 hd2 hk2 =>
      rename_i nt2 fn2 tm2 md2 Bd2 Nd2
      have hm2 := hm.set_obj (b' := .loop .exhausted pe f S2 ps asg body dfr) hb hl2 hle ho (.loop (fn := fn2) hS2 hd2 hk2)
      have hnb : ls ≠ .busy := fun e => by subst e; exact hbusy rfl
      refine ⟨pe, _, run_endLoop ho hnb, ?_⟩
      have hst : StOk ok ro z X w0 ρ2 nt ⟨st.S, T.put (some (.loop .exhausted pe f S2 ps asg body dfr)) H2 l, n2, D1⟩ { a with defers := mark ++ a.defers } _ := ⟨hS.mono (hr1.trans h3), hD.mono h3, hm2, hg.mono (hr1.trans h3)⟩
      cases pe with
      | none => exact ⟨_, ρ2, L2, h1, h2, hr1.trans h3, hst⟩
      | some c =>
        cases c <;> try (cases h1; done)
        · exact wpIn_exit ⟨_, ρ2, L2, h1, h2, hr1.trans h3, hst⟩
        · exact wpIn_ret ⟨_, ρ2, L2, h1, h2, hr1.trans h3, hst⟩
theorem rangeF_ok (hro : E.ro = ro) (hI : Snd P ok okc ro z ih) {ct : Ct} {g : Operand} {ps : Array Tmp} {asg body : Code} {st : St} (hok : ok ct.f nt asg body ps.toList) (hr : RdOk ρ ct.r r)
    (h : evCode E ih (.rangeFunc g ps asg body) ct st k = some L) (hst : StOk ok ro z X w0 ρ nt st a w) : (Code.rangeFunc g ps asg body).wpIn (Cx.Fw r) 0 P (CodeP ok ro z X w0 ρ nt k L) a w := by
  replace h : cRangeF ih ct g ps asg body st k = some L := h
  unfold cRangeF at h
  obtain ⟨fv, hfv, h⟩ := bnd_some.1 h
  simp only [onF_some, reduceCtorEq, and_false, exists_false, or_false, frN_eq] at h
  obtain ⟨f, fi, ca, rfl, h⟩ := h
  obtain ⟨g', h1, h2, h3⟩ := (Ox.of hst.tm hst.gl.1 g).ev hfv
  obtain ⟨fi', ca', rfl, f1, f2⟩ := h3.f_inv
  obtain ⟨S, H, n, D⟩ := st
  obtain ⟨cf, cr⟩ := ct
  have res : ∀ (l : Nat) (w1 : World), (resolve a.eval (rangeCall g l) 0).run P w1 = .ok { target := .fn (.func f) ⟨ca'⟩, args := ⟨fi'⟩ ++ #[.func (.yield l) #[] #[]] } w1 := fun l w1 => by
    have hev : a.eval (.const (.func (.yield l) #[] #[])) = .func (.yield l) #[] #[] := rfl
    simp [resolve, h2, hev, Deferred.ofValue]
  refine wpIn_rangeFunc fun fn _ => ?_
  cases cr with
  | none =>
    cases r with
    | some l => exact hr.elim
    | none =>
      replace h : ih (.call f (appL (appL fi [.y (Nat.succ n)]) ca) (T.put (some (.loop .ready none cf S ps.toList asg body n)) (T.put (some (.dfr true)) H n) (Nat.succ n)) (Nat.succ (Nat.succ n)) (rfK (Nat.succ n) ⟨S, H, n, D⟩ (.mark n :: D) k)) = some L := h
      rw [appL_eq, appL_eq] at h
      obtain ⟨g1, g2⟩ := lay_obj (b := .dfr true) (o := .deferred (some [])) hst.mem .dfr
      have hsz : (w.alloc (.deferred (some []))).heap.size = w.heap.size + 1 := by simp
      have hn1 : (Rho.set ρ n (w.heap.size, 0, 0)) n = some (w.heap.size, 0, 0) := Rho.set_same
      have hle2 := Rho.set_le (x := ((w.alloc (.deferred (some []))).heap.size, 0, 0)) (g2.new (n + 1) (Nat.le_refl _))
      obtain ⟨g3, g4⟩ := lay_obj (b := .loop .ready none cf S ps.toList asg body n) (o := .loop { state := .ready, pending := none, fn := fn, tmps := a.tmps, params := ⟨ps.toList⟩, assign := asg, body := body, defers := w.heap.size }) g2 (.loop (hst.tm.mono (g1.trans hle2)) (hle2 _ _ hn1) hok)
      have hle3 := g1.trans g3
      have hy : (Rho.set (Rho.set ρ n (w.heap.size, 0, 0)) (n + 1) ((w.alloc (.deferred (some []))).heap.size, 0, 0)) (n + 1) = some (w.heap.size + 1, 0, 0) := by rw [← hsz]; exact Rho.set_same
      have hargs := ((f1.mono hle3).app (.one (.y hy))).app (f2.mono hle3)
      obtain ⟨hgo, hcall⟩ := hI.call _ _ _ _ _ _ _ _ _ _ _ h hargs g4 (hst.gl.mono hle3)
      refine ⟨w.heap.size + 1, [{ target := .collected w.heap.size, args := #[] }], _, _, _, f, _, _, run_enterLoop_outer fn a.tmps ps asg body, res _ _, fun _ _ => trivial, ?_, fun h => by simp [Cx.Fw] at h, Cx.calls_fw.2 (Calls.mono hcall fun e w3 he => ?_)⟩
      · have e : ((⟨fi'⟩ ++ #[.func (.yield (w.heap.size + 1)) #[] #[]] ++ ⟨ca'⟩ : Array Value)) = ⟨fi' ++ [.func (.yield (w.heap.size + 1)) #[] #[]] ++ ca'⟩ := by simp
        simp only [invoke, e]
        exact Cx.run_isGo hgo _ _
      · exact rfK_ok (mark := [{ target := .collected w.heap.size, args := #[] }]) hro (Nat.le_succ_of_le hst.mem.ron) hle3 hy hst.tm (.cons (.mark (g3 _ _ hn1)) (hst.df.mono hle3)) hst.gl he
  | some id =>
    cases r with
    | none => exact hr.elim
    | some l' =>
      obtain ⟨N, hid⟩ := hr
      replace h : (blk H id fun b => b.onLoop fun _ _ _ _ _ _ _ dfr => ih (.call f (appL (appL fi [.y n]) ca) (T.put (some (.loop .ready none cf S ps.toList asg body dfr)) H n) (Nat.succ n) (rfK n ⟨S, H, n, D⟩ D k))) = some L := h
      simp only [blk_some, onLoop_some] at h
      obtain ⟨b, hb, ls, pe, f0, S0, ps0, asg0, body0, dfr, rfl, h⟩ := h
      rw [appL_eq, appL_eq] at h
      obtain ⟨o, ho, hbr⟩ := hst.mem.own _ _ _ hb hid
      cases hbr with
      | loop hS0 hd0 hk0 =>
        rename_i nt0 fn0 tm0 md0 Bd0 Nd0
        have hle2 := Rho.set_le (x := (w.heap.size, 0, 0)) (hst.mem.new n (Nat.le_refl _))
        obtain ⟨g3, g4⟩ := lay_obj (b := .loop .ready none cf S ps.toList asg body dfr) (o := .loop { state := .ready, pending := none, fn := fn, tmps := a.tmps, params := ⟨ps.toList⟩, assign := asg, body := body, defers := md0 }) hst.mem (.loop (hst.tm.mono hle2) (hle2 _ _ hd0) hok)
        have hy : (Rho.set ρ n (w.heap.size, 0, 0)) n = some (w.heap.size, 0, 0) := Rho.set_same
        have hargs := ((f1.mono g3).app (.one (.y hy))).app (f2.mono g3)
        obtain ⟨hgo, hcall⟩ := hI.call _ _ _ _ _ _ _ _ _ _ _ h hargs g4 (hst.gl.mono g3)
        refine ⟨w.heap.size, [], _, _, _, f, _, _, run_enterLoop_inner ho, res _ _, fun _ _ => trivial, ?_, fun h => by simp [Cx.Fw] at h, Cx.calls_fw.2 (Calls.mono hcall fun e w3 he => ?_)⟩
        · have e : ((⟨fi'⟩ ++ #[.func (.yield w.heap.size) #[] #[]] ++ ⟨ca'⟩ : Array Value)) = ⟨fi' ++ [.func (.yield w.heap.size) #[] #[]] ++ ca'⟩ := by simp
          simp only [invoke, e]
          exact Cx.run_isGo hgo _ _
        · exact rfK_ok (mark := []) hro hst.mem.ron g3 hy hst.tm (hst.df.mono g3) hst.gl he
end
end Go.Ev

namespace Go.Ev
set_option linter.unusedVariables false
set_option linter.unusedSimpArgs false
set_option linter.constructorNameAsVariable false
open Go
inductive MdOk (ρ : Rho) (z : Int) : Md → FrameMode → Prop where
  | rtn : MdOk ρ z .rtn .returning
  | pan {v : V} {x : Value} {b : Bool} (h : Vr ρ z v x) : MdOk ρ z (.pan v b) (.panicking [{ v := x, recovered := b }])
/-- what is known of the functions in the table -/
structure FnOk (P : Program) (E : Env) (okc : OkC) : Prop where
  fn : ∀ f fn, T.get E.fn f = some fn → P.funcs[f]? = some fn ∧ (∀ c, fn.body = some c → okc f fn.ntmps c) ∧ Cx.isGo P f = true
section
variable {P : Program} {E : Env} {ok : OkL} {okc : OkC} {z : Int} {ρ σ : Rho} {X : Xz} {w0 w : World} {H : T Bk} {n ro nt : Nat} {S : T V} {a : Act} {v : V} {D : List Df} {kv : Kv} {kx : Kx} {L : List Rs} {r : Option Nat} {op : Op} {ih : Tk → R} {ops : Array Oper} {k : Ex → St → R}
theorem MdOk.mono {u : Md} {um : FrameMode} (h : MdOk ρ z u um) (hle : Rle ρ σ) : MdOk σ z u um := by
  cases h with
  | rtn => exact .rtn
  | pan h => exact .pan (h.mono hle)
theorem slots_get : ∀ (l : List V) (i : Nat) (t : T V) (j : Nat), T.get (slots i l t) j = if i ≤ j ∧ j < i + l.length then l[j - i]? else T.get t j
  | [], i, t, j => by
    have : ¬ (i ≤ j ∧ j < i + ([] : List V).length) := fun h => by have := h.2; simp only [List.length_nil] at this; omega
    rw [if_neg this]; rfl
  | v :: l, i, t, j => by
    have e : slots i (v :: l) t = slots (i + 1) l (T.put (some v) t i) := rfl
    rw [e, slots_get l (i + 1), T.get_put]
    simp only [List.length_cons]
    by_cases h1 : i + 1 ≤ j ∧ j < i + 1 + l.length
    · rw [if_pos h1, if_pos (by omega)]
      have : j - i = (j - (i + 1)) + 1 := by omega
      rw [this, List.getElem?_cons_succ]
    · rw [if_neg h1]
      by_cases h2 : j = i
      · subst h2; rw [if_pos rfl, if_pos (by omega)]; simp
      · rw [if_neg h2, if_neg (by omega)]
theorem slots_ok {args : List V} {vs : List Value} (hv : Vs ρ z args vs) (hl : args.length ≤ nt) : Sr ρ z nt (slots 0 args .nil) ((⟨vs⟩ : Array Value) ++ Array.replicate (nt - vs.length) undef) := by
  have hlen := hv.len
  refine ⟨by simp; omega, fun i v hi => ?_⟩
  rw [slots_get, T.get_nil] at hi
  split at hi
  · rename_i h
    simp only [Nat.sub_zero, Nat.zero_add] at hi h
    obtain ⟨y, h1, h2⟩ := hv.at hi
    refine ⟨y, ?_, h2⟩
    rw [Array.getElem?_append_left (by simp; omega)]
    simpa using h1
  · cases hi
/-- one result -/
def resS (tm : Array Value) (r : ResultVar) : Sem Value := match r with
  | .tmp t => pure (tm.getD t undef)
  | .cell a t => do loadVar t (← asAddr (tm.getD a undef))
theorem resL_ok (hE : EnvOk P E z) (hm : Mr ok ro z ρ X w0 H n w) {tm : Array Value} (hS : Sr ρ z nt S tm) : ∀ {rs : List ResultVar} {vs : List V}, resL S H rs E = some vs →
    ∃ ys, (rs.mapM (resS tm)).run P w = .ok ys w ∧ Vs ρ z vs ys
  | [], vs, h => by cases h; exact ⟨[], by simp, .nil⟩
  | r :: rs, vs, h => by
    replace h : (bnd (ResultVar.casesOn (motive := fun _ => Option V) r (fun t => T.get S t) fun t ty => bnd (T.get S t) fun v => rowAt H v fun off l => bnd (T.get E.ty ty) fun ti => partOf ti.ag l off ti.sz) fun v => bnd (resL S H rs E) fun vs => some (v :: vs)) = some vs := h
    obtain ⟨v, hv, h⟩ := bnd_some.1 h
    obtain ⟨vs', hvs, h⟩ := bnd_some.1 h
    cases h
    obtain ⟨ys, h1, h2⟩ := resL_ok hE hm hS hvs
    have gd : ∀ t v, T.get S t = some v → ∃ x, tm.getD t undef = x ∧ Vr ρ z v x := fun t v ht => by
      obtain ⟨x, hx, hvx⟩ := hS.2 t v ht
      exact ⟨x, by rw [Array.getD_eq_getD_getElem?, hx]; rfl, hvx⟩
    cases r with
    | tmp t =>
      obtain ⟨x, hx, hvx⟩ := gd t v hv
      have h0 : (resS tm (.tmp t)).run P w = .ok x w := by simp [resS, hx]
      exact ⟨x :: ys, by simp only [List.mapM_cons, Sem.run_bind, Sem.run_pure, Result.andThen_ok, h0, h1], .cons hvx h2⟩
    | cell a t =>
      replace hv : (bnd (T.get S a) fun v => rowAt H v fun off l => bnd (T.get E.ty t) fun ti => partOf ti.ag l off ti.sz) = some v := hv
      obtain ⟨p, hp, hv⟩ := bnd_some.1 hv
      obtain ⟨id, off, e, l, c, rfl, hb, hv⟩ := rowAt_some.1 hv
      obtain ⟨ti, hti, hv⟩ := bnd_some.1 hv
      obtain ⟨x, hx, hvx⟩ := gd a _ hp
      obtain ⟨u, m, o, rfl, h4, h5⟩ := loadAt_ok (hE.ty _ _ hti) hm hb hvx hv
      have h0 : (resS tm (.cell a t)).run P w = .ok u w := by simp [resS, hx, asAddr, h5]
      exact ⟨u :: ys, by simp only [List.mapM_cons, Sem.run_bind, Sem.run_pure, Result.andThen_ok, h0, h1], .cons h4 h2⟩
theorem tupV_ok {vs : List V} {ys : List Value} (h : Vs ρ z vs ys) : Vr ρ z (tupV vs) (if h : (⟨ys⟩ : Array Value).size = 1 then (⟨ys⟩ : Array Value)[0] else .tuple ⟨ys⟩) := by
  cases h with
  | nil => exact .t' .nil
  | cons h1 t => cases t with
    | nil => exact h1
    | cons h2 t =>
      rw [dif_neg (by simp)]
      exact .t' (.cons h1 (.cons h2 t))
theorem results_ok (hE : EnvOk P E z) (hm : Mr ok ro z ρ X w0 H n w) {tm : Array Value} (hS : Sr ρ z nt S tm) {fn : Func} {vs : List V} (h : resL S H fn.results.toList E = some vs) : ∃ x, (results fn tm).run P w = .ok x w ∧ Vr ρ z (tupV vs) x := by
  obtain ⟨ys, h1, h2⟩ := resL_ok hE hm hS h
  refine ⟨_, ?_, tupV_ok h2⟩
  have e : results fn tm = (do let vs ← fn.results.mapM (resS tm); pure (if h : vs.size = 1 then vs[0] else .tuple vs)) := by
    unfold results
    congr 1
  rw [e, Sem.run_bind, Array.mapM_eq_mapM_toList, Sem.run_map, h1]
  rfl
/-- the frame's end -/
theorem lastK_ok (hE : EnvOk P E z) {fn : Func} {kc : Rs → R} {u : Md} {um : FrameMode} (h : lastK E fn S kc u H n = some L) (hu : MdOk ρ z u um) (hm : Mr ok ro z ρ X w0 H n w) {tm : Array Value} (hS : Sr ρ z nt S tm) : LeavesInM (Cx.Fw none) 0 P fn tm (CallP ok ro z X w0 ρ kc L) [] um w := by
  cases hu with
  | rtn =>
    replace h : (bnd (resL S H fn.results.toList E) fun vs => kc (.ret (tupV vs) H n)) = some L := h
    obtain ⟨vs, h1, h2⟩ := bnd_some.1 h
    obtain ⟨x, h3, h4⟩ := results_ok hE hm hS h1
    exact ⟨x, h3, _, ρ, L, h2, Sb.refl _, Rle.refl _, .ret h4 hm⟩
  | pan hv =>
    rename_i v x b
    replace h : ite_ b none (kc (.pan v H n)) = some L := h
    cases b with
    | true => cases h
    | false => exact ⟨_, ρ, L, h, Sb.refl _, Rle.refl _, .pan hv hm⟩
/-- what a deferred call leaves -/
def DP (ok : OkL) (ro : Nat) (z : Int) (X : Xz) (w0 : World) (ρ : Rho) (k : Md → T Bk → Nat → R) (L : List Rs) (e : Ending) (um : FrameMode) (w : World) : Prop :=
  (∃ x, e = .returned x) ∧ ∃ u H n ρ' L', k u H n = some L' ∧ Sb L' L ∧ Rle ρ ρ' ∧ MdOk ρ' z u um ∧ Mr ok ro z ρ' X w0 H n w
theorem dK_ok {fn : Func} {u : Md} {um : FrameMode} {kd : Md → T Bk → Nat → R} (hres : fn.results = #[]) (hu : MdOk ρ z u um) {e : Exit} (hq : CodeP ok ro z X w0 ρ nt (dK u kd) L e a w) :
    match e with | .normal | .ret => a.defers = [] ∧ ∃ v, (results fn a.tmps).run P w = .ok v w ∧ DP ok ro z X w0 ρ kd L (.returned v) um w | _ => False := by
  have hr : (results fn a.tmps).run P w = .ok (.tuple #[]) w := results_none hres _ _ _
  have fin : ∀ st ρ' L', (List.casesOn (motive := fun _ => R) st.D (kd u st.H st.n) fun _ _ => none) = some L' → Sb L' L → Rle ρ ρ' → StOk ok ro z X w0 ρ' nt st a w → a.defers = [] ∧ ∃ v, (results fn a.tmps).run P w = .ok v w ∧ DP ok ro z X w0 ρ kd L (.returned v) um w := by
    intro st ρ' L' h1 h2 h3 h4
    obtain ⟨S, H, n, D⟩ := st
    cases D with
    | cons d D => cases h1
    | nil =>
      have hdf := h4.df
      refine ⟨by generalize a.defers = ds at hdf; cases hdf; rfl, _, hr, ⟨_, rfl⟩, u, H, n, ρ', L', h1, h2, h3, hu.mono h3, h4.mem⟩
  cases e with
  | normal => obtain ⟨st, ρ', L', h1, h2, h3, h4⟩ := hq; exact fin st ρ' L' h1 h2 h3 h4
  | ret => obtain ⟨st, ρ', L', h1, h2, h3, h4⟩ := hq; exact fin st ρ' L' h1 h2 h3 h4
  | exit i =>
    obtain ⟨st, ρ', L', h1, h2, h3, h4⟩ := hq
    obtain ⟨S, H, n, D⟩ := st
    cases D <;> cases h1
  | panic c =>
    obtain ⟨st, ρ', L', v, x, h1, _⟩ := hq
    obtain ⟨S, H, n, D⟩ := st
    cases D <;> cases h1
  | goto l => exact hq
  | outgrown => exact hq
theorem lenL0 {α : Type} {l : List α} (h : Nat.beq (lenL l) 0 = true) : l = [] := by rw [beqN, lenL_eq, decide_eq_true_eq] at h; exact List.length_eq_zero_iff.1 h
theorem firstC_some {c : Code} {ab : Code × Code} (h : firstC c = some ab) : c = .seq ab.1 ab.2 := by
  cases c <;> simp [firstC] at h
  subst h; rfl
/-- a deferred call -/
theorem callD_ok (hE : EnvOk P E z) (hF : FnOk P E okc) (hC : OkCs okc) (hI : Snd P ok okc ro z ih) {f : Nat} {args : List V} {vs : List Value} {u : Md} {um : FrameMode} {kd : Md → T Bk → Nat → R} (hv : Vs ρ z args vs) (hu : MdOk ρ z u um) (hm : Mr ok ro z ρ X w0 H n w) (hg : Gl z X w0 ρ)
    (h : callD E ih f args u H n kd = some L) : CallsDIn (Cx.Fw none) 0 P f ⟨vs⟩ um w (DP ok ro z X w0 ρ kd L) := by
  unfold callD at h
  simp only [bnd_some, ite_some, le_some, lenL_eq] at h
  obtain ⟨fn, hfn, c, hc, hres, hlen, h⟩ := h
  have hres' : fn.results = #[] := by
    have := lenL0 (l := fn.results.toList) (by rw [lenL_eq]; exact hres)
    apply Array.ext'; simpa using this
  obtain ⟨hf, hokc, _⟩ := hF.fn f fn hfn
  have hokc := hokc c hc
  have hS := slots_ok (nt := fn.ntmps) hv hlen
  have htm : ((⟨vs⟩ : Array Value) ++ Array.replicate (fn.ntmps - (⟨vs⟩ : Array Value).size) undef) = (⟨vs⟩ : Array Value) ++ Array.replicate (fn.ntmps - vs.length) undef := rfl
  cases hra : recA c with
  | none =>
    rw [hra] at h
    replace h : ih (.code c ⟨f, none⟩ ⟨slots 0 args .nil, H, n, []⟩ (dK u kd)) = some L := h
    refine callsDIn_of_wpSIn hf hc trivial fun c₀ cs hcu => wpSIn_of_wpIn rfl ?_
    rw [htm]
    refine wpIn_mono (hI.code c ⟨f, none⟩ ⟨slots 0 args .nil, H, n, []⟩ _ L ρ X w0 w { tmps := (⟨vs⟩ : Array Value) ++ Array.replicate (fn.ntmps - vs.length) undef, defers := [] } fn.ntmps none h hokc ⟨hS, .nil, hm, hg⟩ trivial) fun e a w' hq => ?_
    have := dK_ok (P := P) hres' hu hq
    have hcc : c₀ :: cs = { c₀ with mode := um } :: cs := by rw [← hcu]
    cases e with
    | normal => exact ⟨this.1, um, hcc, this.2⟩
    | ret => exact ⟨this.1, um, hcc, this.2⟩
    | exit i => exact this.elim
    | panic c => exact this.elim
    | goto l => exact this.elim
    | outgrown => exact this.elim
  | some tb =>
    rw [hra] at h
    replace h : (bnd (recV u) fun v => bnd (recM u) fun u' => ite_ (Nat.ble (Nat.succ tb.1) fn.ntmps) (ih (.code tb.2 ⟨f, none⟩ ⟨T.put (some v) (slots 0 args .nil) tb.1, H, n, []⟩ (dK u' kd))) none) = some L := h
    simp only [bnd_some, ite_some, bleN, decide_eq_true_eq] at h
    obtain ⟨rv, hrv, u', hu', htl, h⟩ := h
    simp only [recA, bnd_some] at hra
    obtain ⟨⟨x, y⟩, hab, t', hrt, hra⟩ := hra
    cases hra
    have hcs := firstC_some hab
    simp only at hcs hrt h htl
    subst hcs
    have hoky := (hC.seq hokc).2
    clear hokc
    -- what recover hands back, what it makes of the mode
    obtain ⟨hV, hM⟩ : Vr ρ z rv (Cx.recV um) ∧ MdOk ρ z u' (Cx.recM um) := by
      cases hu with
      | rtn => cases hrv; cases hu'; exact ⟨.iz, .rtn⟩
      | pan hx =>
        rename_i v x b
        cases b with
        | true => cases hrv
        | false => cases hrv; cases hu'; exact ⟨hx, .pan hx⟩
    have hW := hI.code y ⟨f, none⟩ _ _ L ρ X w0 w (Act.put { tmps := (⟨vs⟩ : Array Value) ++ Array.replicate (fn.ntmps - vs.length) undef, defers := [] } (some t') (Cx.recV um)) fn.ntmps none h hoky ⟨hS.put htl hV, .nil, hm, hg⟩ trivial
    refine callsDIn_of_wpSIn hf hc trivial fun c₀ cs hcu => ?_
    rw [htm]
    unfold recR at hrt
    split at hrt
    · rename_i id ops
      split at hrt
      · rename_i t'' ats ty pos af hops
        cases hrt
        refine wpSIn_seq (wpSIn_region ?_)
        have hsz : ops.size = 1 := by rw [← Array.length_toList, hops]; rfl
        have h0 : ops[0]? = some ⟨some t', .call ⟨.builtin .recover, ⟨[]⟩, ats⟩, ty, pos, af, none⟩ := by rw [← Array.getElem?_toList, hops]; rfl
        rw [hsz]
        have hgo : ∀ cs' um', um' = Cx.recM um → cs' = { c₀ with mode := um' } :: cs → Exit.thenS (y.wpSIn (Cx.Fw none) 0 P (bodyPostS P fn c₀ cs (DP ok ro z X w0 ρ kd L))) (bodyPostS P fn c₀ cs (DP ok ro z X w0 ρ kd L)) .normal
            (Act.put { tmps := (⟨vs⟩ : Array Value) ++ Array.replicate (fn.ntmps - vs.length) undef, defers := [] } (some t') (Cx.recV um)) cs' w := by
          intro cs' um' hum hcs
          subst hum
          refine wpSIn_of_wpIn rfl (wpIn_mono hW fun e a w' hq => ?_)
          have := dK_ok (P := P) hres' hM hq
          cases e with
          | normal => exact ⟨this.1, _, hcs, this.2⟩
          | ret => exact ⟨this.1, _, hcs, this.2⟩
          | exit i => exact this.elim
          | panic c => exact this.elim
          | goto l => exact this.elim
          | outgrown => exact this.elim
        have hrec := Cx.recoverD_recM c₀ cs
        rw [hcu] at hrec
        have hrun : ∀ a : Act, (execOp a.eval ⟨some t', .call ⟨.builtin .recover, ⟨[]⟩, ats⟩, ty, pos, af, none⟩).run P w = .ok .recover w := fun a => rfl
        simp only [List.range_succ, List.range_zero, List.nil_append, wpOpsSIn, h0, Region.wanted, if_true, hrun]
        refine ⟨fun _ _ => trivial, ?_⟩
        cases hd : recoverD (c₀ :: cs) with
        | some x =>
          obtain ⟨v, cs'⟩ := x
          rw [hd] at hrec
          obtain ⟨rfl, hcs⟩ := hrec
          exact hgo cs' _ rfl hcs
        | none =>
          rw [hd] at hrec
          obtain ⟨h1, h2⟩ := hrec
          have := hgo (c₀ :: cs) um h2.symm (by rw [← hcu])
          rw [h1] at this
          exact this
      · cases hrt
    · cases hrt
end
end Go.Ev

namespace Go.Ev
set_option linter.unusedVariables false
set_option linter.unusedSimpArgs false
set_option linter.constructorNameAsVariable false
open Go
section
variable {P : Program} {E : Env} {ok : OkL} {okc : OkC} {z : Int} {ρ ρ0 σ : Rho} {X : Xz} {w0 w : World} {H : T Bk} {n ro nt : Nat} {S : T V} {a : Act} {v : V} {D : List Df} {kv : Kv} {kx : Kx} {L L0 : List Rs} {r : Option Nat} {op : Op} {ih : Tk → R} {ops : Array Oper} {k : Ex → St → R}
theorem setl_ok {u : Md} {um : FrameMode} (h : MdOk ρ z u um) : MdOk ρ z (setl u) (settle um) := by
  cases h with
  | rtn => exact .rtn
  | pan hx =>
    rename_i v x b
    cases b with
    | true => exact .rtn
    | false => exact .pan hx
theorem leave_ok (hE : EnvOk P E z) (hro : E.ro = ro) (hF : FnOk P E okc) (hC : OkCs okc) (hI : Snd P ok okc ro z ih) {fn : Func} {tm : Array Value} {Q : Ending → World → Prop} {kl : Md → T Bk → Nat → R}
    (hkl : ∀ u um H n w ρ' L', kl u H n = some L' → Sb L' L0 → Rle ρ0 ρ' → MdOk ρ' z u um → Mr ok ro z ρ' X w0 H n w → LeavesInM (Cx.Fw none) 0 P fn tm Q [] um w) :
    ∀ {D : List Df} {ds : List Deferred} {u : Md} {um : FrameMode} {H : T Bk} {n : Nat} {w : World} {ρ : Rho} {L : List Rs}, Drs ρ z D ds → leave E ih kl D u H n = some L → Sb L L0 → Rle ρ0 ρ → MdOk ρ z u um → Mr ok ro z ρ X w0 H n w → Gl z X w0 ρ → LeavesInM (Cx.Fw none) 0 P fn tm Q ds um w
  | [], ds, u, um, H, n, w, ρ, L, hD, h, hs, hle, hu, hm, hg => by
    cases hD
    exact hkl u um H n w ρ L h hs hle hu hm
  | d :: D, ds, u, um, H, n, w, ρ, L, hD, h, hs, hle, hu, hm, hg => by
    cases hD with
    | cons hd hD' =>
      have hnr : um ≠ .run := by cases hu <;> simp
      cases hd with
      | mark hid =>
        rename_i ID m' B N
        replace h : wOk E ID (blk H ID fun b => b.onDfr fun op => ite_ op (leave E ih kl D u (T.put (some (.dfr false)) H ID) n) none) = some L := h
        replace h := wOk_some.1 h
        obtain ⟨hw, h⟩ := h
        rw [hro] at hw
        simp only [blk_some, onDfr_some, ite_some] at h
        obtain ⟨b, hb, o', rfl, rfl, h⟩ := h
        obtain ⟨o, ho, hbr⟩ := hm.own _ _ _ hb hid
        cases hbr with
        | dfr =>
          have hm' := hm.set_obj (b' := .dfr false) (o' := .deferred none) hb hid hw ho .dfr
          exact ⟨hnr, .inl ⟨_, _, rfl, run_takeDeferred ho, leave_ok hE hro hF hC hI hkl hD' h hs hle hu hm' hg⟩⟩
      | call hv =>
        rename_i f args vs ca
        replace h : callD E ih f args u H n (fun u H n => leave E ih kl D (setl u) H n) = some L := h
        have hcd := callD_ok hE hF hC hI hv hu hm hg h
        have hgo : Cx.isGo P f = true := by
          unfold callD at h
          simp only [bnd_some] at h
          obtain ⟨fn', hfn, _⟩ := h
          exact (hF.fn f fn' hfn).2.2
        refine ⟨hnr, .inr ⟨fun h => by simp [Cx.Fw] at h, _, _, f, ⟨vs ++ ca⟩, rfl, ?_, fun _ _ => trivial, CallsDIn.mono hcd fun e um' w' he => ?_⟩⟩
        · have e : ((⟨vs⟩ : Array Value) ++ ⟨ca⟩) = ⟨vs ++ ca⟩ := by simp
          show (callFunc f (⟨vs⟩ ++ ⟨ca⟩)).run P w = _
          rw [e]
          exact Cx.run_isGo hgo _ _
        · obtain ⟨⟨x, rfl⟩, u', H', n', ρ', L', h1, h2, h3, h4, h5⟩ := he
          exact leave_ok hE hro hF hC hI hkl (hD'.mono h3) h1 (h2.trans hs) (hle.trans h3) (setl_ok h4) h5 (hg.mono h3)
theorem LeavesInM0_mono {fn : Func} {tm : Array Value} {Q Q' : Ending → World → Prop} {um : FrameMode} (h : LeavesInM (Cx.Fw none) 0 P fn tm Q [] um w) (hq : ∀ e w, Q e w → Q' e w) : LeavesInM (Cx.Fw none) 0 P fn tm Q' [] um w := by
  cases um with
  | run => exact h
  | returning => obtain ⟨v, h1, h2⟩ := h; exact ⟨v, h1, hq _ _ h2⟩
  | panicking c => exact hq _ _ h
/-- a call, its body walked -/
theorem bodyF_ok (hE : EnvOk P E z) (hro : E.ro = ro) (hF : FnOk P E okc) (hC : OkCs okc) (hI : Snd P ok okc ro z ih) {f : Nat} {args : List V} {vs : List Value} {kc : Rs → R} (hv : Vs ρ z args vs) (hm : Mr ok ro z ρ X w0 H n w) (hg : Gl z X w0 ρ) (h : bodyF E ih f args H n kc = some L) :
    Cx.isGo P f = true ∧ Calls P f ⟨vs⟩ w (CallP ok ro z X w0 ρ kc L) := by
  unfold bodyF at h
  simp only [bnd_some, le_some, lenL_eq] at h
  obtain ⟨fn, hfn, c, hc, hlen, h⟩ := h
  replace h : ih (.code c ⟨f, none⟩ ⟨slots 0 args .nil, H, n, []⟩ (endK E ih fn kc)) = some L := h
  obtain ⟨hf, hokc, hgo⟩ := hF.fn f fn hfn
  refine ⟨hgo, Cx.calls_fw.1 (callsIn_of_wp_marks (F := Cx.Fw none) (n := 0) hf hc trivial ?_)⟩
  have hS := slots_ok (nt := fn.ntmps) hv hlen
  refine wpIn_mono (hI.code c ⟨f, none⟩ _ _ L ρ X w0 w { tmps := (⟨vs⟩ : Array Value) ++ Array.replicate (fn.ntmps - vs.length) undef, defers := [] } fn.ntmps none h (hokc c hc) ⟨hS, .nil, hm, hg⟩ trivial) fun e a w' hq => ?_
  have fin : ∀ (st : St) (u : Md) (um : FrameMode) (ρ' : Rho) (L' : List Rs), leave E ih (lastK E fn st.S kc) st.D u st.H st.n = some L' → Sb L' L → Rle ρ ρ' → MdOk ρ' z u um → StOk ok ro z X w0 ρ' fn.ntmps st a w' → LeavesInM (Cx.Fw none) 0 P fn a.tmps (CallP ok ro z X w0 ρ kc L) a.defers um w' := by
    intro st u um ρ' L' h1 h2 h3 h4 h5
    refine leave_ok (L0 := L') (ρ0 := ρ') hE hro hF hC hI (fun u um H n w ρ2 L2 g1 g2 g3 g4 g5 => ?_) h5.df h1 (Sb.refl _) (Rle.refl _) h4 h5.mem h5.gl
    have := lastK_ok hE g1 g4 g5 (h5.tm.mono g3)
    refine LeavesInM0_mono this fun e w he => ?_
    exact he.sub (g2.trans h2) (h3.trans g3)
  cases e with
  | normal => obtain ⟨st, ρ', L', h1, h2, h3, h4⟩ := hq; exact fin st .rtn .returning ρ' L' h1 h2 h3 .rtn h4
  | ret => obtain ⟨st, ρ', L', h1, h2, h3, h4⟩ := hq; exact fin st .rtn .returning ρ' L' h1 h2 h3 .rtn h4
  | exit i => obtain ⟨st, ρ', L', h1, h2, h3, h4⟩ := hq; cases h1
  | panic ch =>
    obtain ⟨st, ρ', L', v, x, h1, h2, h3, h4, rfl, h5, h6, h7, h8⟩ := hq
    exact fin st (.pan v false) _ ρ' L' h1 h2 h3 (.pan h4) ⟨h8, h5, h6, h7⟩
  | goto l => exact hq
  | outgrown => exact hq.elim
end
end Go.Ev

namespace Go.Ev
set_option linter.unusedVariables false
set_option linter.unusedSimpArgs false
set_option linter.constructorNameAsVariable false
open Go
/-- what stands ahead of operation i, directly or through others -/
def anc (ops : Array Oper) (i : Nat) : List Nat := Cx.closL ops 4096 (Cx.predsOf ops i) []
/-- operation q, taken first and perhaps still to come, is out of the way of operation i -/
def sepB (ops : Array Oper) (q i : Nat) : Bool := match ops[q]?, ops[i]? with
  | some oq, some o =>
    (match oq.dst with | some dq => !(Cx.memN dq (o.looksAt ops)) || Cx.memN q (anc ops i) | none => true) &&
    (match o.dst with | some d => !(Cx.memN d (oq.looksAt ops)) && (match oq.dst with | some dq => !(Nat.beq dq d) | none => true) | none => true)
  | _, _ => false
def okEarly (ops : Array Oper) : List Nat → List Nat → List Nat → Option (List Nat × List Nat)
  | [], D, pd => some (D, pd)
  | e :: r, D, pd => bif Nat.blt e ops.size && !(Cx.memN e D) && (Cx.predsOf ops e).all (fun x => Cx.memN x D) && pd.all (fun q => sepB ops q e) && (match ops[e]? with | some o => (match o.dst with | some d => !(Cx.memN d (o.looksAt ops)) | none => false) | none => false) then okEarly ops r (e :: D) (e :: pd) else none
/-- it looks at no memory, makes none -/
def memFree (o : Op) : Bool := match o with
  | .move _ | .assign _ | .pick .. | .build .. | .nilCheck _ | .binOp .. | .unOp .. | .makeInterface .. | .makeFunc .. | .slice .. | .fieldAddr .. | .field .. | .indexAddr .. | .index .. | .extract .. | .typeAssert .. => true
  | _ => false
def memFreeI (ops : Array Oper) (q : Nat) : Bool := match ops[q]? with | some o => memFree o.op | none => false
def okAct (ops : Array Oper) (a : Nat) (ks D pd : List Nat) : Bool :=
  Nat.blt a ops.size && !(Cx.memN a D) && (Cx.predsOf ops a).all (fun x => Cx.memN x D) && pd.all (fun q => sepB ops q a && (Cx.memN q (anc ops a) || Cx.memN q ks || memFreeI ops q)) &&
  (List.range ops.size).all (fun j => Cx.memN j D || Nat.beq j a || (Cx.predsOf ops j).any (fun x => !(Cx.memN x D)))
def okSgs (ops : Array Oper) : List Sg → List Nat → List Nat → Bool
  | [], D, pd => (List.range ops.size).all (fun j => Cx.memN j D)
  | sg :: r, D, pd => match okEarly ops sg.early D pd with
    | none => false
    | some (D', pd') => match sg.act with
      | none => okSgs ops r D' pd'
      | some (a, ks) => okAct ops a ks D' pd' && okSgs ops r (a :: D') (pd'.filter fun q => !(Cx.memN q (anc ops a)))
end Go.Ev

namespace Go.Ev
set_option linter.unusedVariables false
set_option linter.unusedSimpArgs false
set_option linter.constructorNameAsVariable false
open Go
theorem isSome_ite {α : Type} {b : Bool} {x : α} : Option.isSome (ite_ b (some x) none) = b := by cases b <;> rfl
theorem isSome_some {β : Type} {x : Option β} (h : x.isSome = true) : ∃ y, x = some y := Option.isSome_iff_exists.1 h
theorem eqN_spec : ∀ {a b : List Nat}, eqN a b = true → a = b
  | [], [], _ => rfl
  | [], _ :: _, h => by cases h
  | _ :: _, [], h => by cases h
  | x :: a, y :: b, h => by
    have h' : ite_ (Nat.beq x y) (eqN a b) false = true := h
    rw [ite_eq, beqN] at h'
    split at h'
    · rename_i hx
      rw [eqN_spec h', of_decide_eq_true hx]
    · cases h'
mutual
theorem eqW_spec : ∀ {a b : V}, eqW a b = true → a = b
  | .b x, b, h => by
    replace h := isSome_some h
    obtain ⟨y, h⟩ := h
    obtain ⟨c, rfl, h⟩ := onB_some.1 h
    have := (ite_some.1 h).1
    cases x <;> cases c <;> first | rfl | cases this
  | .i k x, b, h => by
    replace h := isSome_some h
    obtain ⟨y, h⟩ := h
    obtain ⟨l, c, rfl, h⟩ := onI_some.1 h
    have := (ite_some.1 h).1
    rw [andB_eq, eqK_eq, eqI_eq, Bool.and_eq_true, decide_eq_true_eq, decide_eq_true_eq] at this
    rw [this.1, this.2]
  | .s x, b, h => by
    replace h := isSome_some h
    obtain ⟨y, h⟩ := h
    simp only [onS_some, reduceCtorEq, and_false, exists_false, false_or] at h
    obtain ⟨l, rfl, h⟩ := h
    rw [eqN_spec (ite_some.1 h).1]
  | .p x o, b, h => by
    replace h := isSome_some h
    obtain ⟨y, h⟩ := h
    obtain ⟨l, c, rfl, h⟩ := onP_some.1 h
    have := (ite_some.1 h).1
    rw [andB_eq, beqN, beqN, Bool.and_eq_true, decide_eq_true_eq, decide_eq_true_eq] at this
    rw [this.1, this.2]
  | .pn, b, h => by cases b <;> first | rfl | cases h
  | .sl x1 x2 x3 x4, b, h => by
    replace h := isSome_some h
    obtain ⟨y, h⟩ := h
    simp only [onS_some, reduceCtorEq, and_false, exists_false, false_or, or_false] at h
    obtain ⟨y1, y2, y3, y4, rfl, h⟩ := h
    have := (ite_some.1 h).1
    simp only [andB_eq, beqN, Bool.and_eq_true, decide_eq_true_eq] at this
    obtain ⟨⟨rfl, rfl⟩, rfl, rfl⟩ := this; rfl
  | .su x1 x2 x3 x4, b, h => by
    replace h := isSome_some h
    obtain ⟨y, h⟩ := h
    simp only [onS_some, reduceCtorEq, and_false, exists_false, false_or, or_false] at h
    obtain ⟨y1, y2, y3, y4, rfl, h⟩ := h
    have := (ite_some.1 h).1
    simp only [andB_eq, beqN, Bool.and_eq_true, decide_eq_true_eq] at this
    obtain ⟨⟨rfl, rfl⟩, rfl, rfl⟩ := this; rfl
  | .sn, b, h => by cases b <;> first | rfl | cases h
  | .m x, b, h => by
    replace h := isSome_some h
    obtain ⟨y, h⟩ := h
    simp only [onM_some, reduceCtorEq, and_false, or_false] at h
    obtain ⟨l, rfl, h⟩ := h
    have := (ite_some.1 h).1
    rw [beqN, decide_eq_true_eq] at this
    rw [this]
  | .mn, b, h => by cases b <;> first | rfl | cases h
  | .f f x y, b, h => by
    replace h := isSome_some h
    obtain ⟨w, h⟩ := h
    simp only [onF_some, reduceCtorEq, and_false, exists_false, or_false] at h
    obtain ⟨g, z, u, rfl, h⟩ := h
    have := (ite_some.1 h).1
    rw [andB_eq, andB_eq, beqN, Bool.and_eq_true, Bool.and_eq_true, decide_eq_true_eq] at this
    obtain ⟨rfl, h1, h2⟩ := this
    rw [eqWl_spec h1, eqWl_spec h2]
  | .y x, b, h => by
    replace h := isSome_some h
    obtain ⟨w, h⟩ := h
    simp only [onF_some, reduceCtorEq, and_false, exists_false, false_or] at h
    obtain ⟨g, rfl, h⟩ := h
    have := (ite_some.1 h).1
    rw [beqN, decide_eq_true_eq] at this
    rw [this]
  | .fz, b, h => by cases b <;> first | rfl | cases h
  | .iv t v, b, h => by
    replace h := isSome_some h
    obtain ⟨w, h⟩ := h
    simp only [onIf_some, reduceCtorEq, and_false, or_false] at h
    obtain ⟨g, z, rfl, h⟩ := h
    have := (ite_some.1 h).1
    rw [andB_eq, beqN, Bool.and_eq_true, decide_eq_true_eq] at this
    obtain ⟨rfl, h1⟩ := this
    rw [eqW_spec h1]
  | .iz, b, h => by cases b <;> first | rfl | cases h
  | .a l, b, h => by
    replace h := isSome_some h
    obtain ⟨w, h⟩ := h
    obtain ⟨m, rfl, h⟩ := onA_some.1 h
    rw [eqWl_spec (ite_some.1 h).1]
  | .t l, b, h => by
    replace h := isSome_some h
    obtain ⟨w, h⟩ := h
    obtain ⟨m, rfl, h⟩ := onT_some.1 h
    rw [eqWl_spec (ite_some.1 h).1]
  | .u, b, h => by cases b <;> first | rfl | cases h
/-- the recursor's own form for lists -/
theorem eqWl_spec : ∀ {a b : List V}, (V.rec_1 (motive_1 := fun _ => V → Bool) (motive_2 := fun _ => List V → Bool)
    (fun x b => Option.isSome (b.onB fun y => ite_ (ite_ x y (notB y)) (some ()) none))
    (fun k x b => Option.isSome (b.onI fun l y => ite_ (andB (eqK k l) (eqI x y)) (some ()) none))
    (fun x b => Option.isSome (b.onS (fun _ _ _ _ => none) (fun _ _ _ _ => none) none fun y => ite_ (eqN x y) (some ()) none))
    (fun x o b => Option.isSome (b.onP fun y p => ite_ (andB (Nat.beq x y) (Nat.beq o p)) (some ()) none))
    (fun b => Nat.beq (tagV b) (nat_lit 4))
    (fun x1 x2 x3 x4 b => Option.isSome (b.onS (fun y1 y2 y3 y4 => ite_ (andB (andB (Nat.beq x1 y1) (Nat.beq x2 y2)) (andB (Nat.beq x3 y3) (Nat.beq x4 y4))) (some ()) none) (fun _ _ _ _ => none) none fun _ => none))
    (fun x1 x2 x3 x4 b => Option.isSome (b.onS (fun _ _ _ _ => none) (fun y1 y2 y3 y4 => ite_ (andB (andB (Nat.beq x1 y1) (Nat.beq x2 y2)) (andB (Nat.beq x3 y3) (Nat.beq x4 y4))) (some ()) none) none fun _ => none))
    (fun b => Nat.beq (tagV b) (nat_lit 7))
    (fun x b => Option.isSome (b.onM (fun y => ite_ (Nat.beq x y) (some ()) none) none))
    (fun b => Nat.beq (tagV b) (nat_lit 9))
    (fun f x y ihx ihy b => Option.isSome (b.onF (fun g z w => ite_ (andB (Nat.beq f g) (andB (ihx z) (ihy w))) (some ()) none) (fun _ => none)))
    (fun x b => Option.isSome (b.onF (fun _ _ _ => none) (fun y => ite_ (Nat.beq x y) (some ()) none)))
    (fun b => Nat.beq (tagV b) (nat_lit 12))
    (fun t _ ih b => Option.isSome (b.onIf (fun s y => ite_ (andB (Nat.beq t s) (ih y)) (some ()) none) none))
    (fun b => Nat.beq (tagV b) (nat_lit 14))
    (fun _ ih b => Option.isSome (b.onA fun l => ite_ (ih l) (some ()) none))
    (fun _ ih b => Option.isSome (b.onT fun l => ite_ (ih l) (some ()) none))
    (fun b => Nat.beq (tagV b) (nat_lit 17))
    (fun l => List.rec (motive := fun _ => Bool) true (fun _ _ _ => false) l)
    (fun _ _ ih ih' l => List.rec (motive := fun _ => Bool) false (fun y ys _ => andB (ih y) (ih' ys)) l) a b : Bool) = true → a = b
  | [], [], _ => rfl
  | [], _ :: _, h => by cases h
  | _ :: _, [], h => by cases h
  | x :: a, y :: b, h => by
    have h' : andB (eqW x y) _ = true := h
    rw [andB_eq, Bool.and_eq_true] at h'
    rw [eqW_spec h'.1, eqWl_spec h'.2]
end
theorem eqWs_spec : ∀ {a b : List V}, eqWs a b = true → a = b
  | [], [], _ => rfl
  | [], _ :: _, h => by cases h
  | _ :: _, [], h => by cases h
  | x :: a, y :: b, h => by
    have h' : andB (eqW x y) (eqWs a b) = true := h
    rw [andB_eq, Bool.and_eq_true] at h'
    rw [eqW_spec h'.1, eqWs_spec h'.2]
theorem eqMe_spec {a b : Me} (h : eqMe a b = true) : a = b := by
  obtain ⟨k, v, n⟩ := a
  obtain ⟨k', v', n'⟩ := b
  simp only [eqMe, andB_eq, beqN, Bool.and_eq_true, decide_eq_true_eq] at h
  obtain ⟨h1, h2, rfl⟩ := h
  rw [eqW_spec h1, eqW_spec h2]
theorem eqMes_spec : ∀ {a b : List Me}, eqMes a b = true → a = b
  | [], [], _ => rfl
  | [], _ :: _, h => by cases h
  | _ :: _, [], h => by cases h
  | x :: a, y :: b, h => by
    have h' : andB (eqMe x y) (eqMes a b) = true := h
    rw [andB_eq, Bool.and_eq_true] at h'
    rw [eqMe_spec h'.1, eqMes_spec h'.2]
theorem eqBk_spec {a b : Bk} (h : eqBk a b = true) : a = b := by
  cases a with
  | row t l c =>
    replace h := isSome_some h
    obtain ⟨y, h⟩ := h
    replace h := onRow_some.1 h
    obtain ⟨t', l', c', rfl, h⟩ := h
    replace h := (ite_some.1 h).1
    simp only [andB_eq, beqN, eqB_eq, Bool.and_eq_true, decide_eq_true_eq, beq_iff_eq] at h
    obtain ⟨rfl, rfl, h⟩ := h
    rw [eqWs_spec h]
  | map es ck =>
    replace h := isSome_some h
    obtain ⟨y, h⟩ := h
    replace h := onMap_some.1 h
    obtain ⟨es', ck', rfl, h⟩ := h
    replace h := (ite_some.1 h).1
    simp only [andB_eq, beqN, Bool.and_eq_true, decide_eq_true_eq] at h
    obtain ⟨rfl, h⟩ := h
    rw [eqMes_spec h]
  | iter => cases h
  | loop => cases h
  | dfr => cases h
theorem sameAt_spec {H H' : T Bk} {id : Nat} (h : sameAt H H' id = true) : ∃ b, T.get H id = some b ∧ T.get H' id = some b := by
  unfold sameAt at h
  rw [optR_eq] at h
  cases h1 : T.get H id with
  | none => rw [h1] at h; cases h
  | some b =>
    rw [h1] at h
    simp only [optR_eq] at h
    cases h2 : T.get H' id with
    | none => rw [h2] at h; cases h
    | some b' =>
      rw [h2] at h
      rw [eqBk_spec h]
      exact ⟨b', rfl, rfl⟩
theorem evV_free {E : Env} {op : Op} (h : memFree op = true) (S : T V) (H H' : T Bk) : evV E op S H = evV E op S H' := by
  cases op <;> first | rfl | cases h
theorem evV_keep {E : Env} {op : Op} {x : Operand} {S : T V} {u : V} {H H' : T Bk} (hk : rdOf op = some x) (hx : evO S x = some u) (hs : ∀ id, idV u = some id → T.get H id = T.get H' id) : evV E op S H = evV E op S H' := by
  have row : ∀ {β : Type} (k : Nat → List V → Option β), rowAt H u k = rowAt H' u k := fun k => by
    unfold rowAt
    cases u <;> first | rfl | skip
    rename_i id off
    show bnd (T.get H id) _ = bnd (T.get H' id) _
    rw [hs id rfl]
  have els : ∀ {β : Type} (n es : Nat) (k : List V → Option β), elems H u n es k = elems H' u n es k := fun n es k => by
    unfold elems
    cases u <;> first | rfl | skip
    · rename_i id off len cap
      show bnd (T.get H id) _ = bnd (T.get H' id) _
      rw [hs id rfl]
    · rename_i id off len es'
      show ite_ _ _ (lt_ _ _ (bnd (T.get H id) _)) = ite_ _ _ (lt_ _ _ (bnd (T.get H' id) _))
      rw [hs id rfl]
  cases op <;> first | cases hk | skip
  · -- load
    show bnd (evO S _) _ = bnd (evO S _) _
    rw [hx]
    exact row _
  · -- convert
    show bnd (evO S _) _ = bnd (evO S _) _
    rw [hx]
    have e1 : ∀ k : Nat → List V → Option V, lenS u (fun n => elems H u n 1 (k n)) = lenS u (fun n => elems H' u n 1 (k n)) := fun k => by
      congr 1; funext n; exact els n 1 (k n)
    have e2 : ∀ (k : Nat → Nat → Nat → Nat → Option V), u.onS (fun id o n c => blk H id fun b => b.onRow fun _ _ _ => k id o n c) (fun _ _ _ _ => none) none (fun _ => none) = u.onS (fun id o n c => blk H' id fun b => b.onRow fun _ _ _ => k id o n c) (fun _ _ _ _ => none) none (fun _ => none) := fun k => by
      cases u <;> first | rfl | skip
      rename_i id off len cap
      show bnd (T.get H id) _ = bnd (T.get H' id) _
      rw [hs id rfl]
    have e1' := e1 fun n l => bnd (unB l) fun b => some (V.s b)
    have e2' := e2 fun id o n c => wOk E id (some (.sl id o n c))
    show (bnd (T.get E.ty _) fun ti => bnd (T.get E.ty _) fun ts => _) = _
    simp only [bnd] at e1' e2' ⊢
    rw [e1', e2']
  · -- lookup
    show bnd (evO S _) _ = bnd (evO S _) _
    rw [hx]
    show (bnd (evO S _) fun kv => _) = _
    cases u <;> first | rfl | skip
    rename_i id
    have e := hs id rfl
    simp only [bnd, V.onM, blk]
    rw [e]
  · -- call
    rename_i c
    obtain ⟨ce, as, ts⟩ := c
    obtain ⟨as⟩ := as
    cases as with
    | nil => cases hk
    | cons y as =>
      have hk : y = x := by cases hk; rfl
      subst hk
      show bnd (evOs S (y :: as)) _ = bnd (evOs S (y :: as)) _
      rw [evOs_cons, hx]
      cases hv : evOs S as with
      | none => rfl
      | some vs =>
        cases ce <;> first | rfl | skip
        rename_i b
        show hBi E b ts (u :: vs) H = hBi E b ts (u :: vs) H'
        cases b <;> cases vs <;> first | rfl | skip
        rotate_left
        · rename_i hd tl; cases tl <;> rfl
        · rename_i hd tl; cases tl <;> rfl
        show (bnd (nthL ts.toList 0) fun t => bnd (T.get E.ty t) fun ti => hLen ti u H) = bnd (nthL ts.toList 0) fun t => bnd (T.get E.ty t) fun ti => hLen ti u H'
        have e : ∀ ti, hLen ti u H = hLen ti u H' := fun ti => by
          unfold hLen
          cases u <;> first | rfl | skip
          rename_i id
          have e := hs id rfl
          simp only [V.onM, blk]
          rw [e]
        simp only [e]
theorem evV_more {E : Env} {op : Op} {S : T V} {v : V} {H H' : T Bk} (h : evV E op S H = some v) (hs : ∀ id b, T.get H id = some b → T.get H' id = some b) : evV E op S H' = some v := by
  have bk : ∀ {β : Type} {id : Nat} {k : Bk → Option β} {y : β}, blk H id k = some y → blk H' id k = some y := fun h => by
    obtain ⟨b, hb, h⟩ := blk_some.1 h
    exact blk_some.2 ⟨b, hs _ _ hb, h⟩
  have row : ∀ {β : Type} {u : V} {k : Nat → List V → Option β} {y : β}, rowAt H u k = some y → rowAt H' u k = some y := fun {_ u _ _} h => by
    cases u <;> first | cases h | skip
    exact bk h
  have els : ∀ {β : Type} {u : V} {n es : Nat} {k : List V → Option β} {y : β}, elems H u n es k = some y → elems H' u n es k = some y := fun {_ u n es k y} h => by
    cases u <;> first | exact h | skip
    · exact bk h
    · rename_i id off len es'
      replace h : ite_ (Nat.beq n 0) (k []) (lt_ 0 len (blk H id fun b => b.onRow fun _ l _ => cutL l off (Nat.mul n es) k)) = some y := h
      show ite_ (Nat.beq n 0) (k []) (lt_ 0 len (blk H' id fun b => b.onRow fun _ l _ => cutL l off (Nat.mul n es) k)) = some y
      rw [ite_eq] at h ⊢
      split at h
      · rename_i h0; rw [if_pos h0]; exact h
      · rename_i h0
        rw [if_neg h0]
        rw [lt_some] at h ⊢
        exact ⟨h.1, bk h.2⟩
  cases op <;> first | exact h | cases h | skip
  · -- load
    replace h := bnd_some.1 h
    obtain ⟨u, hu, h⟩ := h
    exact bnd_some.2 ⟨u, hu, row h⟩
  · -- convert
    replace h := bnd_some.1 h
    obtain ⟨u, hu, h⟩ := h
    replace h := bnd_some.1 h
    obtain ⟨ti, hti, h⟩ := h
    replace h := bnd_some.1 h
    obtain ⟨ts, hts, h⟩ := h
    refine bnd_some.2 ⟨u, hu, bnd_some.2 ⟨ti, hti, bnd_some.2 ⟨ts, hts, ?_⟩⟩⟩
    rw [ite_eq] at h ⊢
    split at h
    · rename_i h0; rw [if_pos h0]; exact h
    rename_i h0
    rw [if_neg h0]
    rw [ite_eq] at h ⊢
    split at h
    · rename_i h1
      rw [if_pos h1]
      replace h := bnd_some.1 h
      obtain ⟨te, hte, h⟩ := h
      replace h := ite_some.1 h
      obtain ⟨h2, h⟩ := h
      refine bnd_some.2 ⟨te, hte, ite_some.2 ⟨h2, ?_⟩⟩
      cases u
      case sl id off len cap => exact els (u := .sl id off len cap) (n := len) (es := 1) h
      case su id off len es => exact els (u := .su id off len es) (n := len) (es := 1) h
      case sn => exact h
      case s l => exact h
      all_goals cases h
    · rename_i h1
      rw [if_neg h1]
      replace h := ite_some.1 h
      obtain ⟨h3, h⟩ := h
      replace h := bnd_some.1 h
      obtain ⟨te, hte, h⟩ := h
      replace h := ite_some.1 h
      obtain ⟨h2, h⟩ := h
      refine ite_some.2 ⟨h3, bnd_some.2 ⟨te, hte, ite_some.2 ⟨h2, ?_⟩⟩⟩
      cases u <;> first | exact bk h | cases h
  · -- lookup
    replace h := bnd_some.1 h
    obtain ⟨u, hu, h⟩ := h
    replace h := bnd_some.1 h
    obtain ⟨kv, hkv, h⟩ := h
    replace h := bnd_some.1 h
    obtain ⟨ti, hti, h⟩ := h
    replace h := ite_some.1 h
    obtain ⟨h2, h⟩ := h
    replace h := bnd_some.1 h
    obtain ⟨tk, htk, h⟩ := h
    replace h := bnd_some.1 h
    obtain ⟨te, hte, h⟩ := h
    refine bnd_some.2 ⟨u, hu, bnd_some.2 ⟨kv, hkv, bnd_some.2 ⟨ti, hti, ite_some.2 ⟨h2, bnd_some.2 ⟨tk, htk, bnd_some.2 ⟨te, hte, ?_⟩⟩⟩⟩⟩⟩
    cases u <;> first | exact h | exact bk h
  · -- call
    rename_i c
    obtain ⟨ce, as, ts⟩ := c
    replace h := bnd_some.1 h
    obtain ⟨vs, hvs, h⟩ := h
    refine bnd_some.2 ⟨vs, hvs, ?_⟩
    cases ce <;> first | cases h | skip
    rename_i b
    replace h : hBi E b ts vs H = some v := h
    show hBi E b ts vs H' = some v
    unfold hBi at h ⊢
    split at h
    · rename_i u
      replace h := bnd_some.1 h
      obtain ⟨t, ht, h⟩ := h
      replace h := bnd_some.1 h
      obtain ⟨ti, hti, h⟩ := h
      refine bnd_some.2 ⟨t, ht, bnd_some.2 ⟨ti, hti, ?_⟩⟩
      unfold hLen at h ⊢
      rw [ite_eq] at h ⊢
      split at h
      · rename_i h0
        rw [if_pos h0]
        cases u <;> first | exact h | exact bk h
      · rename_i h0; rw [if_neg h0]; exact h
    · exact h
    · exact h
    · exact h
    · cases h
end Go.Ev

namespace Go.Ev
set_option linter.unusedVariables false
set_option linter.unusedSimpArgs false
set_option linter.constructorNameAsVariable false
open Go
section
variable {P : Program} {E : Env} {ok : OkL} {okc : OkC} {z : Int} {ρ ρ0 σ : Rho} {X : Xz} {w0 w w' : World} {H : T Bk} {n ro nt : Nat} {S : T V} {a : Act} {v : V} {D : List Df} {L L0 : List Rs} {r : Option Nat} {op : Op} {ops : Array Oper}
/-- a block that has been named already gets its place -/
theorem Mr.place (h : Mr ok ro z ρ X w0 H n w) {id : Nat} {b : Bk} {o : Obj} {N m : Nat} (hb : T.get H id = some b) (hn : ρ id = none) (hz : ¬ X.z id) (hx : Cx.Ext Cx.No w w') (hm : w.heap.size ≤ m) (ho : w'.heap[m]? = some o) (hbr : Br ok (ρ.set id (m, 0, N)) z b (m, 0, N) o) :
    Rle ρ (ρ.set id (m, 0, N)) ∧ Mr ok ro z (ρ.set id (m, 0, N)) X w0 H n w' := by
  have hle := Rho.set_le (x := (m, 0, N)) hn
  have h' := h.to hx
  refine ⟨hle, h'.ext, fun i c x hc hp => ?_, fun i c x hc hp hro => ?_, fun i j c d x y hc hd hp hq e => ?_, fun i hi => ?_, h'.dom, h.ron, fun i hi => ⟨by rw [Rho.set_ne (fun (e : i = id) => hz (e ▸ hi))]; exact (h.pz i hi).1, (h.pz i hi).2⟩⟩
  · by_cases hi : i = id
    · subst hi
      rw [hb] at hc; cases hc
      rw [Rho.set_same] at hp; cases hp
      exact ⟨o, ho, hbr⟩
    · rw [Rho.set_ne hi] at hp
      obtain ⟨o', h1, h2⟩ := h'.own i c x hc hp
      exact ⟨o', h1, h2.mono hle⟩
  · by_cases hi : i = id
    · subst hi
      rw [Rho.set_same] at hp; cases hp
      exact .inr (Nat.le_trans h.ext.size hm)
    · rw [Rho.set_ne hi] at hp
      exact h.fr i c x hc hp hro
  · by_cases hi : i = id
    · by_cases hj : j = id
      · rw [hi, hj]
      · rw [Rho.set_ne hj] at hq
        rw [hi, Rho.set_same] at hp; cases hp
        have := h.lt hd hq
        simp only at e; omega
    · rw [Rho.set_ne hi] at hp
      by_cases hj : j = id
      · rw [hj, Rho.set_same] at hq; cases hq
        have := h.lt hc hp
        simp only at e; omega
      · rw [Rho.set_ne hj] at hq
        exact h.inj i j c d x y hc hd hp hq e
  · have hd := h.dom id b hb
    rw [Rho.set_ne (by omega)]
    exact h.new i hi
/-- what yields and makes nothing -/
theorem evV_ok (hE : EnvOk P E z) (hro : E.ro = ro) (hx : ∀ x ∈ op.operands, Ox ρ z S a x) (hm : Mr ok ro z ρ X w0 H n w) (h : evV E op S H = some v) :
    (∀ c, op ≠ .defer c) ∧ ∃ y w', Vr ρ z v y ∧ Mr ok ro z ρ X w0 H n w' ∧ ∀ dst ty pos af g, (execOp a.eval ⟨dst, op, ty, pos, af, g⟩).run P w = .ok (.value y) w' := by
  have fin : (∃ y, Vr ρ z v y ∧ RunV P a w op y) → ∃ y w', Vr ρ z v y ∧ Mr ok ro z ρ X w0 H n w' ∧ ∀ dst ty pos af g, (execOp a.eval ⟨dst, op, ty, pos, af, g⟩).run P w = .ok (.value y) w' := fun ⟨y, h1, h2⟩ => ⟨y, w, h1, hm, h2⟩
  refine ⟨fun c e => (by subst e; cases h), ?_⟩
  cases op with
  | move x => exact fin (let ⟨y, h1, h2, _⟩ := hMove_ok (H := H) (w := w) (hx x (by simp [Op.operands])) h; ⟨y, h1, h2⟩)
  | assign x => exact fin (let ⟨y, h1, _, h2⟩ := hMove_ok (H := H) (w := w) (hx x (by simp [Op.operands])) h; ⟨y, h1, h2⟩)
  | pick c x y => exact fin (hPick_ok (H := H) (w := w) (hx c (by simp [Op.operands])) (hx x (by simp [Op.operands])) (hx y (by simp [Op.operands])) h)
  | build t ps => exact fin (hBuild_ok (H := H) (w := w) hE (fun p hp => hx p.2 (by simp [Op.operands]; exact ⟨p.1, by simpa using hp⟩)) h)
  | load t x => exact fin (hLoad_ok hE (hx x (by simp [Op.operands])) hm h)
  | nilCheck x => exact fin (hNil_ok (H := H) (w := w) (hx x (by simp [Op.operands])) h)
  | binOp o t x y yt => exact fin (hBin_ok (H := H) (w := w) hE (hx x (by simp [Op.operands])) (hx y (by simp [Op.operands])) h)
  | unOp o t x => exact fin (hUn_ok (H := H) (w := w) (hx x (by simp [Op.operands])) h)
  | convert s t x => exact hConv_ok hE hro (hx x (by simp [Op.operands])) hm h
  | makeInterface t x => exact fin (hIface_ok (H := H) (w := w) hE (hx x (by simp [Op.operands])) h)
  | makeFunc f fi ca => exact fin (hFunc_ok (H := H) (w := w) (fun x hx' => hx x (by simp [Op.operands]; left; simpa using hx')) (fun x hx' => hx x (by simp [Op.operands]; right; simpa using hx')) h)
  | slice t x l h' m => exact fin (hSlice_ok (H := H) (w := w) hE (hx x (by simp [Op.operands])) (fun o e => hx o (by simp [Op.operands, e])) (fun o e => hx o (by simp [Op.operands, e])) (fun o e => hx o (by simp [Op.operands, e])) h)
  | fieldAddr t x i => exact fin (hFieldAddr_ok (H := H) (w := w) hE (hx x (by simp [Op.operands])) h)
  | field t x i => exact fin (hField_ok (H := H) (w := w) hE (hx x (by simp [Op.operands])) h)
  | indexAddr t x i => exact fin (hIndexAddr_ok (H := H) (w := w) hE (hx x (by simp [Op.operands])) (hx i (by simp [Op.operands])) h)
  | index t x i => exact fin (hIndex_ok (H := H) (w := w) hE (hx x (by simp [Op.operands])) (hx i (by simp [Op.operands])) h)
  | lookup t x k c => exact fin (hLookup_ok hE (hx x (by simp [Op.operands])) (hx k (by simp [Op.operands])) hm h)
  | typeAssert x t t' c => exact fin (hAssert_ok (H := H) (w := w) hE (hx x (by simp [Op.operands])) h)
  | extract x i => exact fin (hExtract_ok (H := H) (w := w) (hx x (by simp [Op.operands])) h)
  | call c =>
    obtain ⟨ce, as, ts⟩ := c
    replace h : hCallV E ⟨ce, as, ts⟩ S H = some v := h
    unfold hCallV at h
    obtain ⟨vs, hvs, h⟩ := bnd_some.1 h
    cases ce with
    | value q => cases h
    | invoke q m => cases h
    | builtin b => exact fin (hBi_ok hE (fun x hx' => hx x (by simp [Op.operands, Call.operands]; simpa using hx')) hm hvs h)
  | _ => cases h
/-- what makes a block: its name is known already -/
theorem evN_ok (hE : EnvOk P E z) (hx : ∀ x ∈ op.operands, Ox ρ z S a x) (hm : Mr ok ro z ρ X w0 H n w) {id : Nat} {b : Bk} (h : evN E op S id = some (v, b)) (hb : T.get H id = some b) (hn : ρ id = none) (hz : ¬ X.z id) :
    (∀ c, op ≠ .defer c) ∧ ∃ ρ' y w', Rle ρ ρ' ∧ (∀ i, i ≠ id → ρ' i = ρ i) ∧ Vr ρ' z v y ∧ Mr ok ro z ρ' X w0 H n w' ∧ ∀ dst ty pos af g, (execOp a.eval ⟨dst, op, ty, pos, af, g⟩).run P w = .ok (.value y) w' := by
  refine ⟨fun c e => (by subst e; cases h), ?_⟩
  cases op with
  | alloc t =>
    replace h : (bnd (T.get E.ty t) fun ti => ite_ (Nat.beq ti.sz 0) none (some (V.p id 0, Bk.row t ti.zr true))) = some (v, b) := h
    obtain ⟨ti, hti, h⟩ := bnd_some.1 h
    rw [ite_eq] at h
    split at h
    · cases h
    cases h
    have hT := hE.ty _ _ hti
    obtain ⟨l, h1, h2, hf, h3⟩ := hT.zr
    have hl := h3 ρ z
    have hle := Rho.set_le (x := (w.heap.size, 0, l.length)) hn
    obtain ⟨g1, g2⟩ := hm.place (w' := w.alloc (.cells ⟨l⟩ t)) (o := .cells ⟨l⟩ t) (N := l.length) hb hn hz (Cx.ext_alloc _ _) (Nat.le_refl _) (by show (w.heap.push _)[w.heap.size]? = _; simp) (.row (fz := (0, 0)) rfl (by
      have e : ((l.drop 0).take ti.zr.length) = l := by rw [List.drop_zero, hl.len, List.take_length]
      rw [e]; exact ⟨hl.mono hle, hf⟩) ⟨fun j _ h => Nat.not_lt_zero _ h.2, Nat.le_refl _⟩)
    obtain ⟨q, hq, hc⟩ := Cx.run_zer (w := w) h1
    exact ⟨_, .pointer (some ⟨w.heap.size, 0, none⟩), _, g1, fun i hi => Rho.set_ne hi, .p Rho.set_same, g2, fun dst ty pos af g => by simp [execOp, Instr.alloc, hq, newVar, newRow, hc]⟩
  | buildSlice t len ps =>
    replace h : (bnd (T.get E.ty t) fun ti => ite_ (Nat.beq ti.kd 3) (bnd (T.get E.ty ti.el) fun te => le_ (Nat.mul len te.sz) 16777216 (bnd (fill (eqFs te.sz len) S ps.toList (repL te.zr len)) fun l => some (V.sl id 0 len len, Bk.row ti.el l true))) none) = some (v, b) := h
    simp only [bnd_some, ite_some, beqN, decide_eq_true_eq, le_some] at h
    obtain ⟨ti, hti, hk, te, hte, hbig, l, hl, h⟩ := h
    cases h
    have hT := hE.ty _ _ hti
    have hU := hE.ty _ _ hte
    obtain ⟨zl, h1, h2, hzf, h3⟩ := hU.zr
    obtain ⟨vs, k1, k2, k3, k4⟩ := fill_ok (fun p hp => hx p.2 (by simp [Op.operands]; exact ⟨p.1, by simpa using hp⟩)) ((h3 ρ z).rep len) (hzf.rep len) hl
    rw [eqFs_eq] at k2 k3 k4
    have hrun := run_buildSlice (P := P) (a := a) (w := w) (hT.slc hk hU) h1 h2 hbig k1 k2
    have hle := Rho.set_le (x := (w.heap.size, 0, (Cx.blds ((List.range len).map fun j => (j * te.sz, te.sz)) (Cx.repZ zl len) ((ps.toList.map (·.1)).zip vs)).length)) hn
    obtain ⟨g1, g2⟩ := hm.place (w' := w.alloc (.cells ⟨Cx.blds ((List.range len).map fun j => (j * te.sz, te.sz)) (Cx.repZ zl len) ((ps.toList.map (·.1)).zip vs)⟩ ti.el)) (o := .cells ⟨Cx.blds ((List.range len).map fun j => (j * te.sz, te.sz)) (Cx.repZ zl len) ((ps.toList.map (·.1)).zip vs)⟩ ti.el) (N := (Cx.blds ((List.range len).map fun j => (j * te.sz, te.sz)) (Cx.repZ zl len) ((ps.toList.map (·.1)).zip vs)).length) hb hn hz (Cx.ext_alloc _ _) (Nat.le_refl _) (by show (w.heap.push _)[w.heap.size]? = _; simp) (.row (fz := (0, 0)) rfl (by
      rw [List.drop_zero, k3.len, List.take_length]; exact ⟨k3.mono hle, k4⟩) ⟨fun j _ h => Nat.not_lt_zero _ h.2, Nat.le_refl _⟩)
    exact ⟨_, .slice (some ⟨w.heap.size, 0, none⟩) len len, _, g1, fun i hi => Rho.set_ne hi, .sl (B := 0) Rho.set_same, g2, hrun⟩
  | _ => cases h
end
end Go.Ev

namespace Go.Ev
set_option linter.unusedVariables false
set_option linter.unusedSimpArgs false
set_option linter.constructorNameAsVariable false
open Go
/-- an operation that was taken first and may in truth still come up; pi: the name that it gives -/
def Pn (E : Env) (X : Xz) (ops : Array Oper) (ρ : Rho) (S : T V) (H : T Bk) (q : Nat) (pi : Option Nat) : Prop :=
  ∃ o d v S0 b, ops[q]? = some o ∧ o.dst = some d ∧ T.get S d = some v ∧ (∀ t ∈ o.looksAt ops, T.get S t = T.get S0 t) ∧ want ops.toList S0 o.guard = some b ∧ (b = false → v = undefV ∧ pi = none) ∧
    (b = true → (evV E o.op S0 H = some v ∧ pi = none) ∨ ∃ id bk, pi = some id ∧ evN E o.op S0 id = some (v, bk) ∧ T.get H id = some bk ∧ ρ id = none ∧ ¬ X.z id)
/-- each stands behind its predecessors -/
def Ord (ops : Array Oper) : List Nat → Prop
  | [] => True
  | e :: t => (∀ x ∈ Cx.predsOf ops e, x ∈ t) ∧ Ord ops t
/-- a drawn region under way: ls: what has come up; dn: what the walk has done; pd: what of it may still come up -/
structure DI (E : Env) (ok : OkL) (ro : Nat) (z : Int) (X : Xz) (w0 : World) (ops : Array Oper) (nt : Nat) (ls : Array Bool) (dn pd : List Nat) (pid : Nat → Option Nat) (ρ : Rho) (st : St) (a : Act) (w : World) : Prop where
  size : ls.size = ops.size
  lsD : ∀ j, ls.getD j false = true → j ∈ dn
  pdD : ∀ q ∈ pd, q ∈ dn
  Dls : ∀ j ∈ dn, j ∉ pd → ls.getD j false = true
  lt : ∀ j ∈ dn, j < ops.size
  dc : Cx.Dc ops ls
  tsz : a.tmps.size = nt
  tm : ∀ t v, T.get st.S t = some v → (∃ q o, q ∈ pd ∧ ls.getD q false = false ∧ ops[q]? = some o ∧ o.dst = some t) ∨ ∃ x, a.tmps[t]? = some x ∧ Vr ρ z v x
  pn : ∀ q ∈ pd, ls.getD q false = false → Pn E X ops ρ st.S st.H q (pid q)
  pj : ∀ q ∈ pd, ∀ q' ∈ pd, ls.getD q false = false → ls.getD q' false = false → ∀ i, pid q = some i → pid q' = some i → q = q'
  ord : Ord ops dn
  sp : ∀ q ∈ pd, ∀ q' ∈ pd, ∀ o o' t, ops[q]? = some o → ops[q']? = some o' → o'.dst = some t → t ∈ o.looksAt ops → q' ∈ anc ops q
  dd : ∀ q ∈ pd, ∀ q' ∈ pd, ∀ o o' t, ops[q]? = some o → ops[q']? = some o' → o.dst = some t → o'.dst = some t → q = q'
  df : Drs ρ z st.D a.defers
  mem : Mr ok ro z ρ X w0 st.H st.n w
  gl : Gl z X w0 ρ
section
variable {P : Program} {E : Env} {ok : OkL} {okc : OkC} {z : Int} {ρ ρ0 σ : Rho} {X : Xz} {w0 w w' : World} {H H' : T Bk} {n n' ro nt : Nat} {S : T V} {a : Act} {v : V} {D : List Df} {L L0 : List Rs} {r : Option Nat} {op : Op} {ops : Array Oper} {ls : Array Bool} {dn pd : List Nat} {pid : Nat → Option Nat}
/-- a block that has no place yet -/
theorem Mr.name (h : Mr ok ro z ρ X w0 H n w) (b : Bk) : Mr ok ro z ρ X w0 (T.put (some b) H n) (n + 1) w := by
  have hn := h.new n (Nat.le_refl _)
  have key : ∀ i c x, T.get (T.put (some b) H n) i = some c → ρ i = some x → T.get H i = some c := fun i c x hc hp => by
    rw [T.get_put] at hc
    by_cases hi : i = n
    · rw [hi, hn] at hp; cases hp
    · rw [if_neg hi] at hc; exact hc
  refine ⟨h.ext, fun i c x hc hp => h.own i c x (key i c x hc hp) hp, fun i c x hc hp hr => h.fr i c x (key i c x hc hp) hp hr, fun i j c d x y hc hd hp hq e => h.inj i j c d x y (key i c x hc hp) (key j d y hd hq) hp hq e, fun i hi => h.new i (by omega), fun i c hc => ?_, Nat.le_succ_of_le h.ron, fun i hi => ⟨(h.pz i hi).1, Nat.lt_succ_of_lt (h.pz i hi).2⟩⟩
  rw [T.get_put] at hc
  by_cases hi : i = n
  · omega
  · rw [if_neg hi] at hc; have := h.dom i c hc; omega
theorem cond_some {α : Type} {b : Bool} {x : Option α} {y : α} : (bif b then x else none) = some y ↔ b = true ∧ x = some y := by cases b <;> simp
theorem memN_false {x : Nat} {l : List Nat} (h : Cx.memN x l = false) : x ∉ l := fun hx => by rw [Cx.memN_iff.2 hx] at h; cases h
/-- what sepB says -/
theorem sepB_spec {q i : Nat} (h : sepB ops q i = true) : ∃ oq o, ops[q]? = some oq ∧ ops[i]? = some o ∧ (∀ dq, oq.dst = some dq → dq ∈ o.looksAt ops → q ∈ anc ops i) ∧ (∀ d, o.dst = some d → d ∉ oq.looksAt ops ∧ oq.dst ≠ some d) := by
  unfold sepB at h
  split at h
  · rename_i oq o h1 h2
    rw [Bool.and_eq_true] at h
    refine ⟨oq, o, h1, h2, fun dq hd hm => ?_, fun d hd => ?_⟩
    · have := h.1
      rw [hd] at this
      simp only [Bool.or_eq_true, Bool.not_eq_true'] at this
      rcases this with h3 | h3
      · exact absurd hm (memN_false h3)
      · exact Cx.memN_iff.1 h3
    · have := h.2
      rw [hd] at this
      simp only [Bool.and_eq_true, Bool.not_eq_true'] at this
      refine ⟨memN_false this.1, fun e => ?_⟩
      have h4 := this.2
      rw [e] at h4
      simp at h4
  · cases h
/-- one operation more is taken first -/
theorem DI.early (hi : DI E ok ro z X w0 ops nt ls dn pd pid ρ ⟨S, H, n, D⟩ a w) {e d : Nat} {o : Oper} {pi : Option Nat} (ho : ops[e]? = some o) (hd : o.dst = some d) (hlt : e < ops.size) (hnd : e ∉ dn) (hpre : ∀ x ∈ Cx.predsOf ops e, x ∈ dn) (hself : d ∉ o.looksAt ops) (hsep : ∀ q ∈ pd, sepB ops q e = true)
    (hH : ∀ id b, T.get H id = some b → T.get H' id = some b) (hm : Mr ok ro z ρ X w0 H' n' w) (hpi : ∀ id, pi = some id → T.get H id = none)
    {b : Bool} (hw : want ops.toList S o.guard = some b) (hf : b = false → v = undefV ∧ pi = none) (ht : b = true → (evV E o.op S H' = some v ∧ pi = none) ∨ ∃ id bk, pi = some id ∧ evN E o.op S id = some (v, bk) ∧ T.get H' id = some bk ∧ ρ id = none ∧ ¬ X.z id) :
    DI E ok ro z X w0 ops nt ls (e :: dn) (e :: pd) (fun j => if j = e then pi else pid j) ρ ⟨T.put (some v) S d, H', n', D⟩ a w := by
  have hel : ls.getD e false = false := by
    cases h : ls.getD e false with
    | false => rfl
    | true => exact absurd (hi.lsD e h) hnd
  have hne : ∀ q ∈ pd, q ≠ e := fun q hq h => hnd (h ▸ hi.pdD q hq)
  refine ⟨hi.size, fun j hj => List.mem_cons_of_mem _ (hi.lsD j hj), fun q hq => ?_, fun j hj hjp => ?_, fun j hj => ?_, hi.dc, hi.tsz, fun t u hu => ?_, fun q hq hql => ?_, fun q hq q' hq' hql hql' i h1 h2 => ?_, ⟨hpre, hi.ord⟩, fun q hq q' hq' oq oq' t' g1 g2 g3 g4 => ?_, fun q hq q' hq' oq oq' t' g1 g2 g3 g4 => ?_, hi.df, hm, hi.gl⟩
  · rcases List.mem_cons.1 hq with rfl | hq
    · exact List.mem_cons_self ..
    · exact List.mem_cons_of_mem _ (hi.pdD q hq)
  · rcases List.mem_cons.1 hj with rfl | hj
    · exact absurd (List.mem_cons_self ..) hjp
    · exact hi.Dls j hj fun h => hjp (List.mem_cons_of_mem _ h)
  · rcases List.mem_cons.1 hj with rfl | hj
    · exact hlt
    · exact hi.lt j hj
  · replace hu : T.get (T.put (some v) S d) t = some u := hu
    rw [T.get_put] at hu
    by_cases htd : t = d
    · exact .inl ⟨e, o, List.mem_cons_self .., hel, ho, by rw [htd]; exact hd⟩
    · rw [if_neg htd] at hu
      rcases hi.tm t u hu with ⟨q, oq, h1, h2, h3, h4⟩ | h
      · exact .inl ⟨q, oq, List.mem_cons_of_mem _ h1, h2, h3, h4⟩
      · exact .inr h
  · rcases List.mem_cons.1 hq with rfl | hq
    · simp only [if_true]
      refine ⟨o, d, v, S, b, ho, hd, by show T.get (T.put (some v) S d) d = _; rw [T.get_put, if_pos rfl], fun t ht' => ?_, hw, hf, ht⟩
      show T.get (T.put (some v) S d) t = _
      rw [T.get_put, if_neg (fun (h : t = d) => hself (h ▸ ht'))]
    · obtain ⟨oq, dq, vq, S0, bq, p1, p2, p3, p4, p5, p6, p7⟩ := hi.pn q hq hql
      obtain ⟨oq', o', s1, s2, s3, s4⟩ := sepB_spec (hsep q hq)
      rw [p1] at s1; cases s1
      rw [ho] at s2; cases s2
      obtain ⟨s5, s6⟩ := s4 d hd
      have hdq : dq ≠ d := fun h => s6 (by rw [p2, h])
      simp only [if_neg (hne q hq)]
      refine ⟨oq, dq, vq, S0, bq, p1, p2, by show T.get (T.put (some v) S d) dq = _; rw [T.get_put, if_neg hdq]; exact p3, fun t ht' => ?_, p5, p6, fun hb => ?_⟩
      · show T.get (T.put (some v) S d) t = _
        rw [T.get_put, if_neg (fun (h : t = d) => s5 (h ▸ ht'))]
        exact p4 t ht'
      · rcases p7 hb with ⟨g1, g2⟩ | ⟨id, bk, g1, g2, g3, g4⟩
        · exact .inl ⟨evV_more g1 hH, g2⟩
        · exact .inr ⟨id, bk, g1, g2, hH _ _ g3, g4⟩
  · have other : ∀ q ∈ pd, ls.getD q false = false → pid q = some i → pi = some i → False := fun q hq hql h1 h2 => by
      obtain ⟨oq, dq, vq, S0, bq, p1, p2, p3, p4, p5, p6, p7⟩ := hi.pn q hq hql
      have hn := hpi i h2
      cases bq with
      | false => have := (p6 rfl).2; rw [h1] at this; cases this
      | true =>
        rcases p7 rfl with ⟨_, g2⟩ | ⟨id, bk, g1, g2, g3, g4⟩
        · rw [h1] at g2; cases g2
        · rw [h1] at g1; cases g1
          replace g3 : T.get H i = some bk := g3
          rw [hn] at g3; cases g3
    rcases List.mem_cons.1 hq with e1 | m1
    · rcases List.mem_cons.1 hq' with e2 | m2
      · rw [e1, e2]
      · simp only [if_pos e1, if_neg (hne q' m2)] at h1 h2
        exact (other q' m2 hql' h2 h1).elim
    · rcases List.mem_cons.1 hq' with e2 | m2
      · simp only [if_pos e2, if_neg (hne q m1)] at h1 h2
        exact (other q m1 hql h1 h2).elim
      · simp only [if_neg (hne q m1), if_neg (hne q' m2)] at h1 h2
        exact hi.pj q m1 q' m2 hql hql' i h1 h2
  · rcases List.mem_cons.1 hq with e1 | m1
    · rw [e1, ho] at g1; cases g1
      rcases List.mem_cons.1 hq' with e2 | m2
      · rw [e2, ho] at g2; cases g2
        rw [hd] at g3; cases g3
        exact absurd g4 hself
      · obtain ⟨oq2, o2, s1, s2, s3, s4⟩ := sepB_spec (hsep q' m2)
        rw [g2] at s1; cases s1
        rw [ho] at s2; cases s2
        rw [e1]
        exact s3 _ g3 g4
    · rcases List.mem_cons.1 hq' with e2 | m2
      · rw [e2, ho] at g2; cases g2
        obtain ⟨oq2, o2, s1, s2, s3, s4⟩ := sepB_spec (hsep q m1)
        rw [g1] at s1; cases s1
        rw [ho] at s2; cases s2
        exact absurd g4 (s4 _ g3).1
      · exact hi.sp q m1 q' m2 oq oq' t' g1 g2 g3 g4
  · rcases List.mem_cons.1 hq with e1 | m1
    · rcases List.mem_cons.1 hq' with e2 | m2
      · rw [e1, e2]
      · rw [e1, ho] at g1; cases g1
        obtain ⟨oq2, o2, s1, s2, s3, s4⟩ := sepB_spec (hsep q' m2)
        rw [g2] at s1; cases s1
        rw [ho] at s2; cases s2
        exact absurd g4 (s4 _ g3).2
    · rcases List.mem_cons.1 hq' with e2 | m2
      · rw [e2, ho] at g2; cases g2
        obtain ⟨oq2, o2, s1, s2, s3, s4⟩ := sepB_spec (hsep q m1)
        rw [g1] at s1; cases s1
        rw [ho] at s2; cases s2
        exact absurd g3 (s4 _ g4).2
      · exact hi.dd q m1 q' m2 oq oq' t' g1 g2 g3 g4
/-- the operations that are taken first, one after another -/
theorem earlyL_ok {k : St → R} : ∀ {es : List Nat} {dn pd : List Nat} {pid : Nat → Option Nat} {st : St} {dn' pd' : List Nat}, DI E ok ro z X w0 ops nt ls dn pd pid ρ st a w → okEarly ops es dn pd = some (dn', pd') → earlyL E ops.toList k es st = some L →
    ∃ st' pid', k st' = some L ∧ DI E ok ro z X w0 ops nt ls dn' pd' pid' ρ st' a w
  | [], dn, pd, pid, st, dn', pd', hi, hok, h => by cases hok; exact ⟨st, pid, h, hi⟩
  | e :: es, dn, pd, pid, ⟨S, H, n, D⟩, dn', pd', hi, hok, h => by
    unfold okEarly at hok
    rw [cond_some] at hok
    obtain ⟨hc, hok⟩ := hok
    · simp only [Bool.and_eq_true, Nat.blt_eq, Bool.not_eq_true', List.all_eq_true] at hc
      obtain ⟨⟨⟨⟨c1, c2⟩, c3⟩, c4⟩, c5⟩ := hc
      replace h : early1 E ops.toList e ⟨S, H, n, D⟩ (earlyL E ops.toList k es) = some L := h
      unfold early1 at h
      simp only [bnd_some, nthL_eq] at h
      obtain ⟨o, ho, b, hb, h⟩ := h
      have ho' : ops[e]? = some o := by simpa using ho
      rw [ho'] at c5
      cases hd : o.dst with
      | none => simp [hd] at c5
      | some d =>
        rw [hd] at h
        simp only [hd, Bool.not_eq_true'] at c5
        have go := fun {v : V} {H' : T Bk} {n' : Nat} {pi : Option Nat} hH hm hpi hf ht => hi.early (v := v) (H' := H') (n' := n') (pi := pi) ho' hd c1 (memN_false c2) (fun x hx => Cx.memN_iff.1 (c3 x hx)) (memN_false c5) c4 hH hm hpi hb hf ht
        cases b with
        | false =>
          replace h : earlyL E ops.toList k es ⟨T.put (some undefV) S d, H, n, D⟩ = some L := h
          exact earlyL_ok (go (pi := none) (fun _ _ h => h) hi.mem (fun _ h => by cases h) (fun _ => ⟨rfl, rfl⟩) (fun h => by cases h)) hok h
        | true =>
          replace h : optR (frN n fun n => bnd (evN E o.op S n) fun x => earlyL E ops.toList k es (putS (newB ⟨S, H, n, D⟩ x.2) (some d) x.1)) (fun v => earlyL E ops.toList k es (putS ⟨S, H, n, D⟩ (some d) v)) (evV E o.op S H) = some L := h
          rw [optR_eq] at h
          cases hv : evV E o.op S H with
          | some v =>
            rw [hv] at h
            replace h : earlyL E ops.toList k es ⟨T.put (some v) S d, H, n, D⟩ = some L := h
            exact earlyL_ok (go (pi := none) (fun _ _ h => h) hi.mem (fun _ h => by cases h) (fun h => by cases h) (fun _ => .inl ⟨hv, rfl⟩)) hok h
          | none =>
            rw [hv] at h
            simp only [frN_eq, bnd_some] at h
            obtain ⟨⟨v, bk⟩, hx, h⟩ := h
            replace h : earlyL E ops.toList k es ⟨T.put (some v) S d, T.put (some bk) H n, n + 1, D⟩ = some L := h
            have hnn : T.get H n = none := by
              cases hq : T.get H n with
              | none => rfl
              | some b => have := hi.mem.dom n b hq; exact absurd this (Nat.lt_irrefl _)
            exact earlyL_ok (go (pi := some n) (fun id b hb => by
              rw [T.get_put]
              by_cases hid : id = n
              · rw [hid, hnn] at hb; cases hb
              · rw [if_neg hid]; exact hb) (hi.mem.name bk) (fun id h => by cases h; exact hnn) (fun h => by cases h) (fun _ => .inr ⟨n, bk, rfl, hx, by rw [T.get_put, if_pos rfl], hi.mem.new n (Nat.le_refl _), fun hz => absurd (hi.mem.pz n hz).2 (Nat.lt_irrefl _)⟩)) hok h
/-- where the walk stands: at the region's end, or ahead of an operation that acts -/
inductive AtOp (E : Env) (ops : Array Oper) (ac : Op → Hc) (kx : Kx) (L : List Rs) (dn pd : List Nat) (st : St) : Prop where
  | fin (h : kx .norm st = some L) (hd : ∀ j, j < ops.size → j ∈ dn)
  | act {i : Nat} {ks : List Nat} {o : Oper} {rest : List Sg} (ho : ops[i]? = some o) (hok : okAct ops i ks dn pd = true) (hr : okSgs ops rest (i :: dn) (pd.filter fun q => !(Cx.memN q (anc ops i))) = true)
      (h : oneOp ops.toList ac o st (fun st' => ite_ (keepsL ops.toList st.S st.H st'.H ks) (stages E ops.toList ac kx rest st') none) kx = some L)
theorem advance {ac : Op → Hc} {kx : Kx} : ∀ {sgs : List Sg} {dn pd : List Nat} {pid : Nat → Option Nat} {st : St}, DI E ok ro z X w0 ops nt ls dn pd pid ρ st a w → okSgs ops sgs dn pd = true → stages E ops.toList ac kx sgs st = some L →
    ∃ dn' pd' pid' st', DI E ok ro z X w0 ops nt ls dn' pd' pid' ρ st' a w ∧ AtOp E ops ac kx L dn' pd' st'
  | [], dn, pd, pid, st, hi, hok, h => by
    refine ⟨dn, pd, pid, st, hi, .fin h fun j hj => ?_⟩
    unfold okSgs at hok
    rw [List.all_eq_true] at hok
    exact Cx.memN_iff.1 (hok j (List.mem_range.2 hj))
  | sg :: r, dn, pd, pid, st, hi, hok, h => by
    unfold okSgs at hok
    cases he : okEarly ops sg.early dn pd with
    | none => rw [he] at hok; cases hok
    | some dp =>
      obtain ⟨dn', pd'⟩ := dp
      rw [he] at hok
      replace h : earlyL E ops.toList (fun st => optR (stages E ops.toList ac kx r st) (fun a => bnd (nthL ops.toList a.1) fun o => oneOp ops.toList ac o st (fun st' => ite_ (keepsL ops.toList st.S st.H st'.H a.2) (stages E ops.toList ac kx r st') none) kx) sg.act) sg.early st = some L := h
      obtain ⟨st', pid', h1, h2⟩ := earlyL_ok hi he h
      rw [optR_eq] at h1
      cases ha : sg.act with
      | none =>
        rw [ha] at h1
        simp only [ha] at hok
        exact advance h2 hok h1
      | some x =>
        obtain ⟨i, ks⟩ := x
        rw [ha] at h1
        simp only [ha, Bool.and_eq_true] at hok
        simp only [bnd_some, nthL_eq] at h1
        obtain ⟨o, ho, h1⟩ := h1
        exact ⟨dn', pd', pid', st', h2, .act (by simpa using ho) hok.1 hok.2 h1⟩
/-- some operation may come up as long as not all have -/
theorem ord_ready : ∀ {dn : List Nat}, Ord ops dn → (∀ j ∈ dn, j < ops.size) → ls.size = ops.size → (∃ j ∈ dn, ls.getD j false = false) → ∃ j ∈ dn, j ∈ Region.ready .any ops ls
  | [], _, _, _, h => by obtain ⟨j, hj, _⟩ := h; cases hj
  | e :: t, ho, hl, hs, h => by
    by_cases ht : ∃ j ∈ t, ls.getD j false = false
    · obtain ⟨j, h1, h2⟩ := ord_ready ho.2 (fun j hj => hl j (List.mem_cons_of_mem _ hj)) hs ht
      exact ⟨j, List.mem_cons_of_mem _ h1, h2⟩
    · obtain ⟨j, hj, hj2⟩ := h
      rcases List.mem_cons.1 hj with rfl | hj
      · refine ⟨j, List.mem_cons_self .., mem_ready.2 ⟨?_, ?_⟩⟩
        · have hlt := hl j (List.mem_cons_self ..)
          rw [Array.getD_eq_getD_getElem?, Array.getElem?_eq_getElem (by omega)] at hj2 ⊢
          simpa using hj2
        · have hlt := hl j (List.mem_cons_self ..)
          refine ⟨ops[j], Array.getElem?_eq_getElem hlt, fun ed hed hb => ?_⟩
          have hx : ed.on ∈ Cx.predsOf ops j := by
            unfold Cx.predsOf
            rw [Array.getElem?_eq_getElem hlt]
            exact List.mem_map.2 ⟨ed, List.mem_filter.2 ⟨by simpa using hed, hb⟩, rfl⟩
          have := ho.1 _ hx
          cases hq : ls.getD ed.on false with
          | true => rfl
          | false => exact absurd ⟨_, this, hq⟩ ht
      · exact absurd ⟨j, hj, hj2⟩ ht
end
end Go.Ev

namespace Go.Ev
set_option linter.unusedVariables false
set_option linter.unusedSimpArgs false
set_option linter.constructorNameAsVariable false
open Go
section
variable {P : Program} {E : Env} {ok : OkL} {okc : OkC} {z : Int} {ρ ρ0 σ : Rho} {X : Xz} {w0 w w' : World} {H H' : T Bk} {n n' ro nt : Nat} {S : T V} {a : Act} {v : V} {D : List Df} {L L0 : List Rs} {r : Option Nat} {op : Op} {ops : Array Oper} {ls : Array Bool} {dn pd : List Nat} {pid : Nat → Option Nat} {st : St}
theorem Ox.at_ {N0 : Nat} {x : Operand} (h : ∀ t u, x = .tmp t → T.get S t = some u → ∃ y, a.tmps[t]? = some y ∧ Vr ρ z u y) (h0 : ρ 0 = some (0, 0, N0)) : Ox ρ z S a x := fun v hv => by
  cases x with
  | tmp t =>
    obtain ⟨x', h1, h2⟩ := h t v rfl hv
    exact ⟨x', Sl_at h1, h2⟩
  | const c => exact ⟨c, rfl, ofVal_ok hv⟩
  | global g =>
    have hv : ite_ (Nat.beq g 0) (some (V.p 0 0)) none = some v := hv
    rw [ite_some, beqN, decide_eq_true_eq] at hv
    obtain ⟨rfl, hv⟩ := hv
    cases hv
    exact ⟨_, rfl, .p h0⟩
  | func f =>
    have hv : some (V.f f [] []) = some v := hv
    cases hv
    exact ⟨_, rfl, .f' .nil .nil⟩
theorem looks_op {o : Oper} {t : Tmp} (h : .tmp t ∈ o.op.operands) : t ∈ o.looksAt ops := List.mem_append_left _ (List.mem_filterMap.2 ⟨.tmp t, by simpa using h, rfl⟩)
theorem looks_guard {o og : Oper} {g : Nat × Bool} {d : Tmp} (hg : o.guard = some g) (ho : ops[g.1]? = some og) (hd : og.dst = some d) : d ∈ o.looksAt ops := by
  refine List.mem_append_right _ ?_
  obtain ⟨g1, g2⟩ := g
  simp only [hg]
  replace ho : ops[g1]? = some og := ho
  simp [ho, hd]
/-- what is ready has all that stands ahead of it behind it -/
theorem anc_listed {q x : Nat} (hD : Cx.Dc ops ls) (hr : q ∈ Region.ready .any ops ls) (hx : x ∈ anc ops q) : ls.getD x false = true := Cx.closL_listed hD _ _ _ (Cx.ready_preds hr) (by simp) x hx
theorem ready_not {q : Nat} (hr : q ∈ Region.ready .any ops ls) : ls.getD q false = false := by
  have h0 := (mem_ready.1 hr).1
  rw [Array.getD_eq_getD_getElem?] at h0 ⊢
  cases hq : ls[q]? with
  | none => rfl
  | some b => rw [hq] at h0; exact h0
/-- the slots that it looks at are right -/
theorem DI.looks (hi : DI E ok ro z X w0 ops nt ls dn pd pid ρ st a w) {q : Nat} {o : Oper} (hr : q ∈ Region.ready .any ops ls) (hsp : ∀ q' ∈ pd, ls.getD q' false = false → ∀ o' t, ops[q']? = some o' → o'.dst = some t → t ∈ o.looksAt ops → q' ∈ anc ops q) {t : Tmp} {u : V} (ht : t ∈ o.looksAt ops) (hu : T.get st.S t = some u) : ∃ y, a.tmps[t]? = some y ∧ Vr ρ z u y := by
  rcases hi.tm t u hu with ⟨q', o', h1, h2, h3, h4⟩ | h
  · have := anc_listed hi.dc hr (hsp q' h1 h2 o' t h3 h4 ht)
    rw [h2] at this; cases this
  · exact h
theorem mem_set {i j : Nat} (h : (ls.setIfInBounds i true).getD j false = false) : j ≠ i ∧ ls.getD j false = false ∨ (j = i ∧ ls.size ≤ i) := by
  by_cases hij : i = j
  · subst hij
    refine .inr ⟨rfl, ?_⟩
    rcases Nat.lt_or_ge i ls.size with hlt | hge
    · rw [Array.getD_eq_getD_getElem?, Array.getElem?_setIfInBounds] at h
      simp [hlt] at h
    · exact hge
  · rw [getD_set_ne false hij] at h
    exact .inl ⟨fun e => hij e.symm, h⟩
/-- an operation that was taken first comes up -/
theorem DI.pend (hE : EnvOk P E z) (hro : E.ro = ro) (hnt : ∀ o ∈ ops.toList, ∀ d, o.dst = some d → d < nt) (hi : DI E ok ro z X w0 ops nt ls dn pd pid ρ st a w) {q : Nat} (hq : q ∈ pd) (hr : q ∈ Region.ready .any ops ls) {Q : Exit → Act → World → Prop} {K : Act → World → Prop}
    (hK : ∀ ρ' a' w', Rle ρ ρ' → DI E ok ro z X w0 ops nt (ls.setIfInBounds q true) dn pd pid ρ' st a' w' → K a' w') : wpOpIn (Cx.Fw r) 0 P ops Q q K a w := by
  have hql := ready_not hr
  obtain ⟨o, d, v, S0, b, p1, p2, p3, p4, p5, p6, p7⟩ := hi.pn q hq hql
  have hmem : o ∈ ops.toList := by simpa using Array.mem_of_getElem? p1
  have hd := hnt o hmem d p2
  have lk : ∀ t u, t ∈ o.looksAt ops → T.get S0 t = some u → ∃ y, a.tmps[t]? = some y ∧ Vr ρ z u y := fun t u ht hu => by
    rw [← p4 t ht] at hu
    exact hi.looks hr (fun q' h1 h2 o' t h3 h4 h5 => hi.sp q hq q' h1 o o' t p1 h3 h4 h5) ht hu
  have hqs : q < ls.size := by rw [hi.size]; exact hi.lt q (hi.pdD q hq)
  -- the invariant behind it
  have next : ∀ ρ' y w', Rle ρ ρ' → (∀ i, pid q ≠ some i → ρ' i = ρ i) → Vr ρ' z v y → Mr ok ro z ρ' X w0 st.H st.n w' → DI E ok ro z X w0 ops nt (ls.setIfInBounds q true) dn pd pid ρ' st (a.put o.dst y) w' := by
    intro ρ' y w' hle hoth hv hm
    have hput : a.put o.dst y = { a with tmps := a.tmps.setIfInBounds d y } := by rw [p2]; rfl
    rw [hput]
    have un : ∀ j, (ls.setIfInBounds q true).getD j false = false → j ≠ q ∧ ls.getD j false = false := fun j hj => by
      rcases mem_set hj with h | ⟨_, h⟩
      · exact h
      · omega
    refine ⟨by rw [Array.size_setIfInBounds]; exact hi.size, fun j hj => ?_, hi.pdD, fun j hj hjp => getD_set_true (hi.Dls j hj hjp), hi.lt, hi.dc.set hr, by show (a.tmps.setIfInBounds d y).size = nt; rw [Array.size_setIfInBounds]; exact hi.tsz, fun t u hu => ?_, fun q' hq' hl' => ?_, fun q1 h1 q2 h2 l1 l2 => hi.pj q1 h1 q2 h2 (un q1 l1).2 (un q2 l2).2, hi.ord, hi.sp, hi.dd, hi.df.mono hle, hm, hi.gl.mono hle⟩
    · by_cases hjq : q = j
      · rw [← hjq]; exact hi.pdD q hq
      · rw [getD_set_ne false hjq] at hj; exact hi.lsD j hj
    · by_cases htd : t = d
      · subst htd
        rw [p3] at hu; cases hu
        exact .inr ⟨y, by show (a.tmps.setIfInBounds t y)[t]? = _; rw [Array.getElem?_setIfInBounds]; simp [hi.tsz, hd], hv⟩
      · rcases hi.tm t u hu with ⟨q', o', h1, h2, h3, h4⟩ | ⟨x, h1, h2⟩
        · have hne : q ≠ q' := fun e => by
            subst e
            rw [p1] at h3; cases h3
            rw [p2] at h4; cases h4
            exact htd rfl
          exact .inl ⟨q', o', h1, by rw [getD_set_ne false hne]; exact h2, h3, h4⟩
        · exact .inr ⟨x, by show (a.tmps.setIfInBounds d y)[t]? = _; rw [Array.getElem?_setIfInBounds, if_neg (fun e => htd e.symm)]; exact h1, h2.mono hle⟩
    · obtain ⟨hne, hl⟩ := un q' hl'
      obtain ⟨o', d', v', S0', b', g1, g2, g3, g4, g5, g6, g7⟩ := hi.pn q' hq' hl
      refine ⟨o', d', v', S0', b', g1, g2, g3, g4, g5, g6, fun hb => ?_⟩
      rcases g7 hb with h | ⟨id, bk, k1, k2, k3, k4, k5⟩
      · exact .inl h
      · refine .inr ⟨id, bk, k1, k2, k3, ?_, k5⟩
        rw [hoth id fun e => hne (hi.pj q' hq' q hq hl hql id k1 e)]
        exact k4
  have hw := want_ok (ops := ops) (a := a) (ρ := ρ) (z := z) (fun g og d v hg ho hd hv => lk d v (looks_guard hg ho hd) hv) p5
  have hx : ∀ x ∈ o.op.operands, Ox ρ z S0 a x := fun x hx' => Ox.at_ (fun t u e hu => lk t u (looks_op (e ▸ hx')) hu) hi.gl.1
  unfold wpOpIn
  simp only [p1, hw]
  cases b with
  | false =>
    simp only [Bool.false_eq_true, if_false]
    obtain ⟨rfl, _⟩ := p6 rfl
    exact ⟨fun _ _ => trivial, hK ρ _ w (Rle.refl _) (next ρ undef w (Rle.refl _) (fun _ _ => rfl) Vr.undef hi.mem)⟩
  | true =>
    simp only [if_true]
    refine ⟨fun _ _ => trivial, ?_⟩
    rcases p7 rfl with ⟨hv, hp⟩ | ⟨id, bk, k1, k2, k3, k4, k5⟩
    · obtain ⟨hnd, y, w', h1, h2, h3⟩ := evV_ok hE hro hx hi.mem hv
      rw [Oper.semAt_eq _ _ _ hnd, h3]
      exact hK ρ _ w' (Rle.refl _) (next ρ y w' (Rle.refl _) (fun _ _ => rfl) h1 h2)
    · obtain ⟨hnd, ρ', y, w', h0, h1, h2, h3, h4⟩ := evN_ok hE hx hi.mem k2 k3 k4 k5
      rw [Oper.semAt_eq _ _ _ hnd, h4]
      exact hK ρ' _ w' h0 (next ρ' y w' h0 (fun i hne => h1 i fun e => hne (by rw [e]; exact k1)) h2 h3)
end
end Go.Ev

namespace Go.Ev
set_option linter.unusedVariables false
set_option linter.unusedSimpArgs false
set_option linter.constructorNameAsVariable false
open Go
section
variable {S' : T V} {P : Program} {E : Env} {ok : OkL} {okc : OkC} {z : Int} {ρ ρ0 ρ' σ : Rho} {X : Xz} {w0 w w' : World} {H H' : T Bk} {n n' ro nt : Nat} {S : T V} {a : Act} {v : V} {D D' : List Df} {L L0 : List Rs} {r : Option Nat} {op : Op} {ops : Array Oper} {ls : Array Bool} {dn pd : List Nat} {pid : Nat → Option Nat} {st : St}
/-- the pending names are kept free, too -/
def Xp (X : Xz) (ls : Array Bool) (pd : List Nat) (pid : Nat → Option Nat) : Xz := ⟨X.b, fun i => X.z i ∨ ∃ q ∈ pd, ls.getD q false = false ∧ pid q = some i⟩
theorem DI.memP (hi : DI E ok ro z X w0 ops nt ls dn pd pid ρ st a w) : Mr ok ro z ρ (Xp X ls pd pid) w0 st.H st.n w := by
  have h := hi.mem
  refine ⟨h.ext, h.own, h.fr, h.inj, h.new, h.dom, h.ron, fun i hz => ?_⟩
  rcases hz with hz | ⟨q, hq, hl, hp⟩
  · exact h.pz i hz
  · obtain ⟨o, d, v, S0, b, p1, p2, p3, p4, p5, p6, p7⟩ := hi.pn q hq hl
    cases b with
    | false => have := (p6 rfl).2; rw [hp] at this; cases this
    | true =>
      rcases p7 rfl with ⟨_, g⟩ | ⟨id, bk, k1, k2, k3, k4, k5⟩
      · rw [hp] at g; cases g
      · rw [hp] at k1; cases k1
        exact ⟨k4, h.dom _ _ k3⟩
theorem Mr.less (h : Mr ok ro z ρ (Xp X ls pd pid) w0 H n w) : Mr ok ro z ρ X w0 H n w := ⟨h.ext, h.own, h.fr, h.inj, h.new, h.dom, h.ron, fun i hz => h.pz i (.inl hz)⟩
theorem keeps_some {all : List Oper} {q : Nat} {o : Oper} {d : Tmp} {b : Bool} {v : V} (ho : all[q]? = some o) (hd : o.dst = some d) (hv : T.get S d = some v) (hw : want all S o.guard = some b) (h : keeps all S H H' q = true) (hb : b = true) :
    (∀ x, rdOf o.op = some x → ∃ u, evO S x = some u ∧ ∀ id, idV u = some id → T.get H id = T.get H' id) ∧ (rdOf o.op = none → ∃ id, idV v = some id ∧ T.get H id = T.get H' id) := by
  unfold keeps at h
  replace h := isSome_some h
  obtain ⟨y, h⟩ := h
  simp only [bnd_some, nthL_eq] at h
  obtain ⟨o', ho', b', hw', h⟩ := h
  rw [ho] at ho'; cases ho'
  rw [hw] at hw'; cases hw'
  subst hb
  replace h : (bnd o.dst fun d => bnd (T.get S d) fun r => optR (bnd (idV r) fun id => ite_ (sameAt H H' id) (some ()) none) (fun x => bnd (evO S x) fun v => optR (some ()) (fun id => ite_ (sameAt H H' id) (some ()) none) (idV v)) (rdOf o.op)) = some y := h
  rw [hd] at h
  replace h : (bnd (T.get S d) fun r => optR (bnd (idV r) fun id => ite_ (sameAt H H' id) (some ()) none) (fun x => bnd (evO S x) fun v => optR (some ()) (fun id => ite_ (sameAt H H' id) (some ()) none) (idV v)) (rdOf o.op)) = some y := h
  rw [hv] at h
  replace h : optR (bnd (idV v) fun id => ite_ (sameAt H H' id) (some ()) none) (fun x => bnd (evO S x) fun v => optR (some ()) (fun id => ite_ (sameAt H H' id) (some ()) none) (idV v)) (rdOf o.op) = some y := h
  rw [optR_eq] at h
  have same : ∀ id, ite_ (sameAt H H' id) (some ()) none = some y → T.get H id = T.get H' id := fun id h => by
    obtain ⟨b, h1, h2⟩ := sameAt_spec (ite_some.1 h).1
    rw [h1, h2]
  refine ⟨fun x hx => ?_, fun hn => ?_⟩
  · rw [hx] at h
    obtain ⟨u, hu, h⟩ := bnd_some.1 h
    refine ⟨u, hu, fun id hid => ?_⟩
    rw [optR_eq, hid] at h
    exact same id h
  · rw [hn] at h
    obtain ⟨id, hid, h⟩ := bnd_some.1 h
    exact ⟨id, hid, same id h⟩
theorem rd_operand {op : Op} {x : Operand} (h : rdOf op = some x) : x ∈ op.operands := by
  cases op <;> first | cases h | skip
  · simp [Op.operands]
  · simp [Op.operands]
  · simp [Op.operands]
  · rename_i c
    obtain ⟨ce, as, ts⟩ := c
    obtain ⟨as⟩ := as
    cases as with
    | nil => cases h
    | cons y as =>
      have h : y = x := by cases h; rfl
      subst h
      cases ce <;> simp [Op.operands, Call.operands]
theorem evN_id {op : Op} {id : Nat} {bk : Bk} (h : evN E op S id = some (v, bk)) : rdOf op = none ∧ idV v = some id := by
  cases op <;> first | (cases h; done) | skip
  · obtain ⟨ti, _, h⟩ := bnd_some.1 h
    rw [ite_eq] at h
    split at h
    · cases h
    · cases h; exact ⟨rfl, rfl⟩
  · obtain ⟨ti, _, h⟩ := bnd_some.1 h
    obtain ⟨_, h⟩ := ite_some.1 h
    obtain ⟨te, _, h⟩ := bnd_some.1 h
    obtain ⟨_, h⟩ := le_some.1 h
    obtain ⟨l, _, h⟩ := bnd_some.1 h
    cases h; exact ⟨rfl, rfl⟩
theorem evN_free {op : Op} {id : Nat} {bk : Bk} (h : evN E op S id = some (v, bk)) : memFree op = false := by
  cases op <;> first | rfl | (cases h; done)
theorem evO_agree {S0 : T V} {x : Operand} (h : ∀ t, x = .tmp t → T.get S t = T.get S0 t) : evO S x = evO S0 x := by
  cases x <;> first | rfl | exact h _ rfl
theorem want_agree {S0 : T V} {o : Oper} (h : ∀ t ∈ o.looksAt ops, T.get S t = T.get S0 t) : want ops.toList S o.guard = want ops.toList S0 o.guard := by
  unfold want
  cases hg : o.guard with
  | none => rfl
  | some g =>
    simp only [optR_eq, nthL_eq]
    cases ho : ops.toList[g.1]? with
    | none => rfl
    | some og =>
      have ho' : ops[g.1]? = some og := by simpa using ho
      cases hd : og.dst with
      | none => simp only [bnd, hd]
      | some d =>
        have e := h d (looks_guard hg ho' hd)
        simp only [bnd, hd]
        rw [e]
theorem evV_none {op : Op} (hk : rdOf op = none) (S : T V) (H H' : T Bk) : evV E op S H = evV E op S H' := by
  cases op <;> first | rfl | cases hk | skip
  rename_i c
  obtain ⟨ce, as, ts⟩ := c
  obtain ⟨as⟩ := as
  cases as with
  | nil => cases ce <;> first | rfl | (rename_i b; cases b <;> rfl)
  | cons y as => cases hk
theorem keepsL_mem {all : List Oper} : ∀ {is : List Nat} {q : Nat}, keepsL all S H H' is = true → q ∈ is → keeps all S H H' q = true
  | [], q, _, h => by cases h
  | i :: is, q, hk, h => by
    replace hk : ite_ (keeps all S H H' i) (keepsL all S H H' is) false = true := hk
    rw [ite_eq] at hk
    split at hk
    · rcases List.mem_cons.1 h with rfl | h
      · assumption
      · exact keepsL_mem hk h
    · cases hk
/-- a pending operation is as it was behind the act -/
theorem Pn.keep {q : Nat} {pi : Option Nat} {o' : Oper} {ks : List Nat} {i : Nat} (h : Pn E X ops ρ S H q pi) (hle : Rle ρ ρ') (hk : keepsL ops.toList S H H' ks = true) (hq : q ∈ ks ∨ memFreeI ops q = true) (hS : ∀ o d, ops[q]? = some o → o.dst = some d → (∀ t ∈ o.looksAt ops, T.get S' t = T.get S t) ∧ T.get S' d = T.get S d)
    (hpi : ∀ id, pi = some id → ρ' id = none) : Pn E X ops ρ' S' H' q pi := by
  obtain ⟨o, d, v, S0, b, p1, p2, p3, p4, p5, p6, p7⟩ := h
  obtain ⟨s1, s2⟩ := hS o d p1 p2
  refine ⟨o, d, v, S0, b, p1, p2, by rw [s2]; exact p3, fun t ht => (s1 t ht).trans (p4 t ht), p5, p6, fun hb => ?_⟩
  have p1' : ops.toList[q]? = some o := by simpa using p1
  have hw : want ops.toList S o.guard = some b := by rw [want_agree p4]; exact p5
  have free : memFreeI ops q = true → memFree o.op = true := fun h => by unfold memFreeI at h; rw [p1] at h; exact h
  rcases p7 hb with ⟨g1, g2⟩ | ⟨id, bk, k1, k2, k3, k4, k5⟩
  · refine .inl ⟨?_, g2⟩
    rcases hq with hq | hq
    · obtain ⟨c1, c2⟩ := keeps_some p1' p2 p3 hw (keepsL_mem hk hq) hb
      cases hrd : rdOf o.op with
      | none => rw [← evV_none hrd S0 H H']; exact g1
      | some x =>
        obtain ⟨u, hu, hs⟩ := c1 x hrd
        by_cases hx : x ∈ o.op.operands
        · have hu0 : evO S0 x = some u := by
            rw [← evO_agree (S := S) fun t e => p4 t (looks_op (e ▸ hx))]
            exact hu
          rw [← evV_keep hrd hu0 hs]; exact g1
        · exact absurd (rd_operand hrd) hx
    · rw [← evV_free (free hq) S0 H H']; exact g1
  · refine .inr ⟨id, bk, k1, k2, ?_, hpi id k1, k5⟩
    rcases hq with hq | hq
    · obtain ⟨c1, c2⟩ := keeps_some p1' p2 p3 hw (keepsL_mem hk hq) hb
      obtain ⟨hrd, hidv⟩ := evN_id k2
      obtain ⟨id', h1, h2⟩ := c2 hrd
      rw [hidv] at h1; cases h1
      rw [← h2]; exact k3
    · exact absurd (free hq) (by rw [evN_free k2]; simp)
end
end Go.Ev

namespace Go.Ev
set_option linter.unusedVariables false
set_option linter.unusedSimpArgs false
set_option linter.constructorNameAsVariable false
open Go
section
variable {S' : T V} {P : Program} {E : Env} {ok : OkL} {okc : OkC} {z : Int} {ρ ρ0 ρ' σ : Rho} {X : Xz} {w0 w w' : World} {H H' : T Bk} {n n' ro nt : Nat} {S : T V} {a : Act} {v : V} {D D' : List Df} {L L0 : List Rs} {r : Option Nat} {op : Op} {ops : Array Oper} {ls : Array Bool} {dn pd : List Nat} {pid : Nat → Option Nat} {st : St} {ih : Tk → R} {k : Ex → St → R}
/-- what okAct says -/
theorem okAct_spec {i : Nat} {ks : List Nat} (h : okAct ops i ks dn pd = true) : i < ops.size ∧ i ∉ dn ∧ (∀ x ∈ Cx.predsOf ops i, x ∈ dn) ∧ (∀ q ∈ pd, sepB ops q i = true ∧ (q ∈ anc ops i ∨ q ∈ ks ∨ memFreeI ops q = true)) ∧ ∀ j, j < ops.size → j ∈ dn ∨ j = i ∨ ∃ x ∈ Cx.predsOf ops j, x ∉ dn := by
  unfold okAct at h
  simp only [Bool.and_eq_true, Nat.blt_eq, Bool.not_eq_true', List.all_eq_true, Bool.or_eq_true] at h
  obtain ⟨⟨⟨⟨h1, h2⟩, h3⟩, h4⟩, h5⟩ := h
  refine ⟨h1, memN_false h2, fun x hx => Cx.memN_iff.1 (h3 x hx), fun q hq => ⟨(h4 q hq).1, ?_⟩, fun j hj => ?_⟩
  · rcases (h4 q hq).2 with (g | g) | g
    · exact .inl (Cx.memN_iff.1 g)
    · exact .inr (.inl (Cx.memN_iff.1 g))
    · exact .inr (.inr g)
  · rcases h5 j (List.mem_range.2 hj) with (g | g) | g
    · exact .inl (Cx.memN_iff.1 g)
    · exact .inr (.inl (Nat.eq_of_beq_eq_true g))
    · rw [List.any_eq_true] at g
      obtain ⟨x, hx, hn⟩ := g
      exact .inr (.inr ⟨x, hx, memN_false (by simpa using hn)⟩)
/-- behind an operation that acts -/
theorem DI.acted (hi : DI E ok ro z X w0 ops nt ls dn pd pid ρ ⟨S, H, n, D⟩ a w) {i : Nat} {ks : List Nat} {o : Oper} (ho : ops[i]? = some o) (hok : okAct ops i ks dn pd = true) (hr : i ∈ Region.ready .any ops ls) (hnt : ∀ d, o.dst = some d → d < nt) {y : Value} {ds : List Deferred}
    (hle : Rle ρ ρ') (hv : Vr ρ' z v y) (hD : Drs ρ' z D' ds) (hm : Mr ok ro z ρ' (Xp X ls pd pid) w0 H' n' w') (hk : keepsL ops.toList S H H' ks = true) :
    DI E ok ro z X w0 ops nt (ls.setIfInBounds i true) (i :: dn) (pd.filter fun q => !(Cx.memN q (anc ops i))) pid ρ' (putS ⟨S, H', n', D'⟩ o.dst v) ({ a with defers := ds }.put o.dst y) w' := by
  obtain ⟨c1, c2, c3, c4, c5⟩ := okAct_spec hok
  have his : i < ls.size := by rw [hi.size]; exact c1
  have fil : ∀ q, q ∈ pd.filter (fun q => !(Cx.memN q (anc ops i))) ↔ q ∈ pd ∧ q ∉ anc ops i := fun q => by
    rw [List.mem_filter]
    constructor
    · rintro ⟨h1, h2⟩; exact ⟨h1, memN_false (by simpa using h2)⟩
    · rintro ⟨h1, h2⟩
      refine ⟨h1, ?_⟩
      cases hq : Cx.memN q (anc ops i) with
      | true => exact absurd (Cx.memN_iff.1 hq) h2
      | false => rfl
  have un : ∀ j, (ls.setIfInBounds i true).getD j false = false → j ≠ i ∧ ls.getD j false = false := fun j hj => by
    rcases mem_set hj with h | ⟨_, h⟩
    · exact h
    · omega
  have set_i : (ls.setIfInBounds i true).getD i false = true := by
    rw [Array.getD_eq_getD_getElem?, Array.getElem?_setIfInBounds]; simp [his]
  have sep : ∀ q ∈ pd, ∀ oq d, ops[q]? = some oq → o.dst = some d → d ∉ oq.looksAt ops ∧ oq.dst ≠ some d := fun q hq oq d h1 h2 => by
    obtain ⟨oq2, o2, s1, s2, s3, s4⟩ := sepB_spec (c4 q hq).1
    rw [h1] at s1; cases s1
    rw [ho] at s2; cases s2
    exact s4 d h2
  have putT : ∀ t, (∀ d, o.dst = some d → t ≠ d) → T.get (putS ⟨S, H', n', D'⟩ o.dst v).S t = T.get S t := fun t ht => by
    rw [putS_eq]
    cases hd : o.dst with
    | none => rfl
    | some d => show T.get (T.put (some v) S d) t = _; rw [T.get_put, if_neg (ht d hd)]
  have hSt : (putS ⟨S, H', n', D'⟩ o.dst v).H = H' ∧ (putS ⟨S, H', n', D'⟩ o.dst v).n = n' ∧ (putS ⟨S, H', n', D'⟩ o.dst v).D = D' := by rw [putS_eq]; exact ⟨rfl, rfl, rfl⟩
  have htm : ∀ t, (∀ d, o.dst = some d → t ≠ d) → (({ a with defers := ds } : Act).put o.dst y).tmps[t]? = a.tmps[t]? := fun t ht => by
    cases hd : o.dst with
    | none => rfl
    | some d => show (a.tmps.setIfInBounds d y)[t]? = _; rw [Array.getElem?_setIfInBounds, if_neg fun e => ht d hd e.symm]
  refine ⟨by rw [Array.size_setIfInBounds]; exact hi.size, fun j hj => ?_, fun q hq => List.mem_cons_of_mem _ (hi.pdD q ((fil q).1 hq).1), fun j hj hjp => ?_, fun j hj => ?_, hi.dc.set hr, ?_, fun t u hu => ?_, fun q hq hl => ?_, fun q1 h1 q2 h2 l1 l2 => hi.pj q1 ((fil q1).1 h1).1 q2 ((fil q2).1 h2).1 (un q1 l1).2 (un q2 l2).2, ⟨c3, hi.ord⟩, fun q1 h1 q2 h2 => hi.sp q1 ((fil q1).1 h1).1 q2 ((fil q2).1 h2).1, fun q1 h1 q2 h2 => hi.dd q1 ((fil q1).1 h1).1 q2 ((fil q2).1 h2).1, ?_, ?_, hi.gl.mono hle⟩
  · by_cases hji : i = j
    · rw [hji]; exact List.mem_cons_self ..
    · rw [getD_set_ne false hji] at hj; exact List.mem_cons_of_mem _ (hi.lsD j hj)
  · rcases List.mem_cons.1 hj with rfl | hj
    · exact set_i
    · by_cases hp : j ∈ pd
      · by_cases ha : j ∈ anc ops i
        · exact getD_set_true (anc_listed hi.dc hr ha)
        · exact absurd ((fil j).2 ⟨hp, ha⟩) hjp
      · exact getD_set_true (hi.Dls j hj hp)
  · rcases List.mem_cons.1 hj with rfl | hj
    · exact c1
    · exact hi.lt j hj
  · cases hd : o.dst with
    | none => exact hi.tsz
    | some d => show (a.tmps.setIfInBounds d y).size = nt; rw [Array.size_setIfInBounds]; exact hi.tsz
  · by_cases htd : ∃ d, o.dst = some d ∧ t = d
    · obtain ⟨d, hd, rfl⟩ := htd
      rw [putS_eq, hd] at hu
      replace hu : T.get (T.put (some v) S t) t = some u := hu
      rw [T.get_put, if_pos rfl] at hu
      cases hu
      refine .inr ⟨y, ?_, hv⟩
      rw [hd]
      show (a.tmps.setIfInBounds t y)[t]? = _
      rw [Array.getElem?_setIfInBounds]; simp [hi.tsz, hnt t hd]
    · have htd' : ∀ d, o.dst = some d → t ≠ d := fun d hd e => htd ⟨d, hd, e⟩
      rw [putT t htd'] at hu
      rcases hi.tm t u hu with ⟨q, oq, h1, h2, h3, h4⟩ | ⟨x, h1, h2⟩
      · have hna : q ∉ anc ops i := fun h => by rw [anc_listed hi.dc hr h] at h2; cases h2
        have hne : i ≠ q := fun e => c2 (e ▸ hi.pdD q h1)
        exact .inl ⟨q, oq, (fil q).2 ⟨h1, hna⟩, by rw [getD_set_ne false hne]; exact h2, h3, h4⟩
      · exact .inr ⟨x, by rw [htm t htd']; exact h1, h2.mono hle⟩
  · obtain ⟨hp, hna⟩ := (fil q).1 hq
    obtain ⟨hne, hl'⟩ := un q hl
    rw [hSt.1]
    refine (hi.pn q hp hl').keep (i := i) (o' := o) hle hk ?_ (fun oq d g1 g2 => ⟨fun t ht => putT t fun d' hd' e => (sep q hp oq d' g1 hd').1 (e ▸ ht), putT d fun d' hd' e => (sep q hp oq d' g1 hd').2 (by rw [g2, e])⟩) (fun id hid => (hm.pz id (.inr ⟨q, hp, hl', hid⟩)).1)
    rcases (c4 q hp).2 with g | g
    · exact absurd g hna
    · exact g
  · rw [hSt.2.2]
    cases hd : o.dst <;> exact hD
  · rw [hSt.1, hSt.2.1]
    exact hm.less
end
end Go.Ev

namespace Go.Ev
set_option linter.unusedVariables false
set_option linter.unusedSimpArgs false
set_option linter.constructorNameAsVariable false
open Go
def cntL : List Bool → Nat
  | [] => 0
  | b :: l => (if b then 0 else 1) + cntL l
theorem cntL_set : ∀ {l : List Bool} {j : Nat}, l[j]? = some false → cntL (l.set j true) + 1 = cntL l
  | [], j, h => by simp at h
  | b :: l, 0, h => by
    simp at h; subst h
    simp [cntL]; omega
  | b :: l, j + 1, h => by
    have := cntL_set (l := l) (j := j) (by simpa using h)
    simp only [List.set_cons_succ, cntL]; omega
theorem cntL_zero : ∀ {l : List Bool} {j : Nat}, cntL l = 0 → l[j]? ≠ some false
  | [], j, h => by simp
  | b :: l, 0, h => by
    simp only [cntL] at h
    cases b with
    | true => simp
    | false => simp at h
  | b :: l, j + 1, h => by
    simp only [cntL] at h
    have := cntL_zero (l := l) (j := j) (by omega)
    simpa using this
theorem dropD_get : ∀ {os : List Oper} {S : T V} {t : Nat} {u : V}, T.get (dropD os S) t = some u → (∀ o ∈ os, o.dst ≠ some t) ∧ T.get S t = some u
  | [], S, t, u, h => ⟨by simp, h⟩
  | o :: os, S, t, u, h => by
    replace h : T.get (optR (dropD os S) (fun d => T.put none (dropD os S) d) o.dst) t = some u := h
    rw [optR_eq] at h
    cases hd : o.dst with
    | none =>
      rw [hd] at h
      obtain ⟨h1, h2⟩ := dropD_get h
      exact ⟨fun o' ho' => by rcases List.mem_cons.1 ho' with rfl | ho'; · rw [hd]; simp
                              · exact h1 o' ho', h2⟩
    | some d =>
      rw [hd] at h
      replace h : T.get (T.put none (dropD os S) d) t = some u := h
      rw [T.get_put] at h
      by_cases htd : t = d
      · rw [if_pos htd] at h; cases h
      · rw [if_neg htd] at h
        obtain ⟨h1, h2⟩ := dropD_get h
        refine ⟨fun o' ho' => ?_, h2⟩
        rcases List.mem_cons.1 ho' with rfl | ho'
        · rw [hd]; exact fun e => htd (by injection e with e; exact e.symm)
        · exact h1 o' ho'
section
variable {S' : T V} {P : Program} {E : Env} {ok : OkL} {okc : OkC} {z : Int} {ρ ρ0 ρ' σ : Rho} {X : Xz} {w0 w w' : World} {H H' : T Bk} {n n' ro nt : Nat} {S : T V} {a : Act} {v : V} {D D' : List Df} {L L0 : List Rs} {r : Option Nat} {op : Op} {ops : Array Oper} {ls : Array Bool} {dn pd : List Nat} {pid : Nat → Option Nat} {st : St} {ih : Tk → R} {k : Ex → St → R}
theorem ready_at {j : Nat} (h : j ∈ Region.ready .any ops ls) : ls.toList[j]? = some false := by
  have h0 := (mem_ready.1 h).1
  rw [Array.getD_eq_getD_getElem?] at h0
  rw [Array.getElem?_toList]
  cases hj : ls[j]? with
  | none => rw [hj] at h0; cases h0
  | some b => rw [hj] at h0; simp at h0; rw [h0]
theorem ready_of {i : Nat} (hs : ls.size = ops.size) (hi : i < ops.size) (hl : ls.getD i false = false) (hp : ∀ x ∈ Cx.predsOf ops i, ls.getD x false = true) : i ∈ Region.ready .any ops ls := by
  refine mem_ready.2 ⟨?_, ops[i], Array.getElem?_eq_getElem hi, fun ed hed hb => hp _ ?_⟩
  · rw [Array.getD_eq_getD_getElem?, Array.getElem?_eq_getElem (by omega)] at hl ⊢
    simpa using hl
  · unfold Cx.predsOf
    rw [Array.getElem?_eq_getElem hi]
    exact List.mem_map.2 ⟨ed, List.mem_filter.2 ⟨by simpa using hed, hb⟩, rfl⟩
theorem DI.all (hi : DI E ok ro z X w0 ops nt ls dn pd pid ρ st a w) (hr : Region.ready .any ops ls = []) : ∀ j ∈ dn, ls.getD j false = true := fun j hj => by
  cases h : ls.getD j false with
  | true => rfl
  | false =>
    obtain ⟨j', _, h'⟩ := ord_ready hi.ord hi.lt hi.size ⟨j, hj, h⟩
    rw [hr] at h'; cases h'
/-- a drawn region from any place on -/
theorem drawn_main (hE : EnvOk P E z) (hX : ExtOk P E) {nm : String} (hV : IvOk P E nm) (hro : E.ro = ro) (hI : Snd P ok okc ro z ih) (hok : ∀ f nt asg body ps, ok f nt asg body ps → okc f nt asg ∧ okc f nt body ∧ ∀ p ∈ ps, p < nt) {ct : Ct} (hop : ∀ o ∈ ops.toList, OkOper nt nm o) {Q : Exit → Act → World → Prop} :
    ∀ (fuel : Nat) {ls : Array Bool} {dn pd : List Nat} {pid : Nat → Option Nat} {ρ : Rho} {st : St} {a : Act} {w : World} {L : List Rs}, cntL ls.toList ≤ fuel → DI E ok ro z X w0 ops nt ls dn pd pid ρ st a w → AtOp E ops (act E ih ct) (panK ops.toList k) L dn pd st → RdOk ρ ct.r r →
      (∀ e a w, CodeP ok ro z X w0 ρ nt k L e a w → Q e a w) → wpAnyIn (Cx.Fw r) 0 P .any ops Q fuel ls a w := by
  have stop : ∀ {ls : Array Bool} {dn pd : List Nat} {pid : Nat → Option Nat} {ρ : Rho} {st : St} {a : Act} {w : World} {L : List Rs}, DI E ok ro z X w0 ops nt ls dn pd pid ρ st a w → AtOp E ops (act E ih ct) (panK ops.toList k) L dn pd st → (∀ e a w, CodeP ok ro z X w0 ρ nt k L e a w → Q e a w) → Region.ready .any ops ls = [] → Q .normal a w := by
    intro ls dn pd pid ρ st a w L hi hat hQ hr
    have hall := hi.all hr
    cases hat with
    | fin h hd =>
      refine hQ _ _ _ ⟨st, ρ, L, h, Sb.refl _, Rle.refl _, ⟨⟨hi.tsz, fun t u hu => ?_⟩, hi.df, hi.mem, hi.gl⟩⟩
      rcases hi.tm t u hu with ⟨q, oq, h1, h2, h3, h4⟩ | h
      · have := hall q (hi.pdD q h1)
        rw [h2] at this; cases this
      · exact h
    | act ho hoka hrest hh =>
      rename_i i ks o rest
      obtain ⟨c1, c2, c3, c4, c5⟩ := okAct_spec hoka
      have hl : ls.getD i false = false := by
        cases h : ls.getD i false with
        | false => rfl
        | true => exact absurd (hi.lsD i h) c2
      have := ready_of hi.size c1 hl fun x hx => hall x (c3 x hx)
      rw [hr] at this; cases this
  intro fuel
  induction fuel with
  | zero =>
    intro ls dn pd pid ρ st a w L hc hi hat hr hQ
    have hrd : Region.ready .any ops ls = [] := by
      cases h : Region.ready .any ops ls with
      | nil => rfl
      | cons j l =>
        have hj : j ∈ Region.ready .any ops ls := by rw [h]; exact List.mem_cons_self ..
        exact absurd (ready_at hj) (cntL_zero (by omega))
    exact ⟨hrd, stop hi hat hQ hrd⟩
  | succ fuel IH =>
    intro ls dn pd pid ρ st a w L hc hi hat hr hQ
    refine ⟨stop hi hat hQ, fun j hj => ?_⟩
    have hc' : cntL (ls.setIfInBounds j true).toList ≤ fuel := by
      have := cntL_set (ready_at hj)
      rw [Array.toList_setIfInBounds]; omega
    have hjs : j < ops.size := by
      obtain ⟨_, o, ho, _⟩ := mem_ready.1 hj
      exact (Array.getElem?_eq_some_iff.1 ho).1
    have hjl := ready_not hj
    have pend : j ∈ dn → wpOpIn (Cx.Fw r) 0 P ops Q j (wpAnyIn (Cx.Fw r) 0 P .any ops Q fuel (ls.setIfInBounds j true)) a w := fun hjd => by
      have hjp : j ∈ pd := by
        by_cases h : j ∈ pd
        · exact h
        · have := hi.Dls j hjd h; rw [hjl] at this; cases this
      exact hi.pend hE hro (fun o ho => (hop o ho).dst) hjp hj fun ρ' a' w' hle hi' => IH hc' hi' hat (hr.mono hle) fun e a w h => hQ e a w (h.sub (Sb.refl _) hle)
    cases hat with
    | fin h hd => exact pend (hd j hjs)
    | act ho hoka hrest h =>
      rename_i i ks o rest
      obtain ⟨c1, c2, c3, c4, c5⟩ := okAct_spec hoka
      rcases c5 j hjs with hjd | rfl | ⟨x, hx, hxn⟩
      · exact pend hjd
      · obtain ⟨S, H, n, D⟩ := st
        have hmem : o ∈ ops.toList := by simpa using Array.mem_of_getElem? ho
        have hoo := hop o hmem
        have lk : ∀ t u, t ∈ o.looksAt ops → T.get S t = some u → ∃ y, a.tmps[t]? = some y ∧ Vr ρ z u y := fun t u ht hu => hi.looks (o := o) hj (fun q' h1 h2 o' t' h3 h4 h5 => by
          obtain ⟨oq2, o2, s1, s2, s3, s4⟩ := sepB_spec (c4 q' h1).1
          rw [h3] at s1; cases s1
          rw [ho] at s2; cases s2
          exact s3 _ h4 h5) ht hu
        replace h : (bnd (want ops.toList S o.guard) fun b => ite_ b (act E ih ct o.op ⟨S, H, n, D⟩ (fun v st' => ite_ (keepsL ops.toList S H (putS st' o.dst v).H ks) (stages E ops.toList (act E ih ct) (panK ops.toList k) rest (putS st' o.dst v)) none) (panK ops.toList k))
          (ite_ (keepsL ops.toList S H (putS ⟨S, H, n, D⟩ o.dst undefV).H ks) (stages E ops.toList (act E ih ct) (panK ops.toList k) rest (putS ⟨S, H, n, D⟩ o.dst undefV)) none)) = some L := h
        obtain ⟨b, hb, h⟩ := bnd_some.1 h
        have hw := want_ok (ops := ops) (a := a) (ρ := ρ) (z := z) (fun g og d v hg ho hd hv => lk d v (looks_guard hg ho hd) hv) hb
        have hH : ∀ (H' : T Bk) (n' : Nat) (D' : List Df) (v : V), (putS ⟨S, H', n', D'⟩ o.dst v).H = H' := fun H' n' D' v => by rw [putS_eq]
        have next : ∀ {ρ' : Rho} {v : V} {y : Value} {ds : List Deferred} {H' : T Bk} {n' : Nat} {D' : List Df} {w' : World} {L' : List Rs}, Rle ρ ρ' → Vr ρ' z v y → Drs ρ' z D' ds → Mr ok ro z ρ' (Xp X ls pd pid) w0 H' n' w' → Sb L' L →
            ite_ (keepsL ops.toList S H (putS ⟨S, H', n', D'⟩ o.dst v).H ks) (stages E ops.toList (act E ih ct) (panK ops.toList k) rest (putS ⟨S, H', n', D'⟩ o.dst v)) none = some L' →
            wpAnyIn (Cx.Fw r) 0 P .any ops Q fuel (ls.setIfInBounds j true) (({ a with defers := ds } : Act).put o.dst y) w' := by
          intro ρ' v y ds H' n' D' w' L' hle hv hD hm hs hh
          rw [hH] at hh
          obtain ⟨hk, hh⟩ := ite_some.1 hh
          have hi' := hi.acted ho hoka hj hoo.dst hle hv hD hm hk
          obtain ⟨dn2, pd2, pid2, st2, hi2, hat2⟩ := advance hi' hrest hh
          exact IH hc' hi2 hat2 (hr.mono hle) fun e a w h => hQ e a w (h.sub hs hle)
        unfold wpOpIn
        simp only [ho, hw]
        cases b with
        | false =>
          simp only [Bool.false_eq_true, if_false]
          exact ⟨fun _ _ => trivial, next (ds := a.defers) (Rle.refl _) Vr.undef hi.df hi.memP (Sb.refl _) h⟩
        | true =>
          simp only [if_true]
          have hx : ∀ x ∈ o.op.operands, Ox ρ z S a x := fun x hx' => Ox.at_ (fun t u e hu => lk t u (looks_op (e ▸ hx')) hu) hi.gl.1
          have hopk := act_ok hE hX hV hro hI hok (a := a) (r := r) (X := Xp X ls pd pid) hr hoo.inv hx hi.df hi.memP ⟨hi.gl.1, hi.gl.2⟩ h
          refine ⟨fun _ _ => trivial, hopk o.dst o.type o.pos o.after o.guard _ _ (fun ds y w' hk => ?_) (fun c w' hk => ?_)⟩
          · obtain ⟨v, H', n', D', ρ', L', h1, h2, h3, h4, h5, h6⟩ := hk
            exact next h3 h4 h5 h6 h2 h1
          · obtain ⟨v, H', n', ρ', L', x, h1, h2, h3, h4, h5, h6⟩ := hk
            refine hQ _ _ _ ⟨⟨dropD ops.toList S, H', n', D⟩, ρ', L', v, x, h1, h2, h3, h4, h5, hi.df.mono h3, h6.less, hi.gl.mono h3, hi.tsz, fun t u hu => ?_⟩
            obtain ⟨g1, g2⟩ := dropD_get hu
            rcases hi.tm t u g2 with ⟨q, oq, q1, q2, q3, q4⟩ | ⟨y, y1, y2⟩
            · exact absurd q4 (g1 oq (by simpa using Array.mem_of_getElem? q3))
            · exact ⟨y, y1, y2.mono h3⟩
      · exact absurd (hi.lsD x (Cx.ready_preds hj x hx)) hxn
theorem cntL_rep : ∀ m, cntL (List.replicate m false) = m
  | 0 => rfl
  | m + 1 => by rw [List.replicate_succ]; simp only [cntL, cntL_rep m]; simp; omega
/-- a drawn region -/
theorem region_draw_ok (hE : EnvOk P E z) (hX : ExtOk P E) {nm : String} (hV : IvOk P E nm) (hro : E.ro = ro) (hI : Snd P ok okc ro z ih) (hok : ∀ f nt asg body ps, ok f nt asg body ps → okc f nt asg ∧ okc f nt body ∧ ∀ p ∈ ps, p < nt) {ct : Ct} (hop : ∀ o ∈ ops.toList, OkOper nt nm o) (hmo : P.follows .mixedOrders = true) {id : Nat} {st : St}
    (hpl : ∀ tp sgs, T.get E.pl ct.f = some tp → T.get tp id = some sgs → okSgs ops sgs [] [] = true) (hr : RdOk ρ ct.r r) (h : evCode E ih (.region id ops true) ct st k = some L) (hst : StOk ok ro z X w0 ρ nt st a w) : (Code.region id ops true).wpIn (Cx.Fw r) 0 P (CodeP ok ro z X w0 ρ nt k L) a w := by
  replace h : (bnd (T.get E.pl ct.f) fun tp => bnd (T.get tp id) fun sgs => stages E ops.toList (act E ih ct) (panK ops.toList k) sgs st) = some L := h
  obtain ⟨tp, htp, h⟩ := bnd_some.1 h
  obtain ⟨sgs, hsg, h⟩ := bnd_some.1 h
  refine wpIn_region_any hmo ?_
  have rep : ∀ j, (Array.replicate ops.size false).getD j false = false := fun j => by
    rw [Array.getD_eq_getD_getElem?, Array.getElem?_replicate]
    split <;> rfl
  have hi : DI E ok ro z X w0 ops nt (Array.replicate ops.size false) [] [] (fun _ => none) ρ st a { w with drawn := w.drawn + 1 } :=
    ⟨by simp, fun j hj => (by rw [rep] at hj; cases hj), fun q hq => (by cases hq), fun j hj => (by cases hj), fun j hj => (by cases hj), Cx.Dc.start ops, hst.tm.1, fun t v hv => .inr (hst.tm.2 t v hv), fun q hq => (by cases hq), fun q hq => (by cases hq), trivial, fun q hq => (by cases hq), fun q hq => (by cases hq), hst.df, hst.mem.to (Cx.Ext.drew w), hst.gl⟩
  obtain ⟨dn, pd, pid, st', h1, h2⟩ := advance hi (hpl tp sgs htp hsg) h
  exact drawn_main hE hX hV hro hI hok hop ops.size (by rw [Array.toList_replicate, cntL_rep]; exact Nat.le_refl _) h1 h2 hr fun _ _ _ h => h
end
end Go.Ev

namespace Go.Ev
set_option linter.unusedVariables false
set_option linter.unusedSimpArgs false
set_option linter.constructorNameAsVariable false
open Go
/-- the static check of regions and of ranges over functions -/
structure OkRg (P : Program) (E : Env) (ok : OkL) (okc : OkC) (nm : String) : Prop where
  ops : ∀ {f nt id ops dr}, okc f nt (.region id ops dr) → ∀ o ∈ ops.toList, OkOper nt nm o
  pl : ∀ {f nt id ops}, okc f nt (.region id ops true) → ∀ tp sgs, T.get E.pl f = some tp → T.get tp id = some sgs → okSgs ops sgs [] [] = true
  rf : ∀ {f nt g ps asg body}, okc f nt (.rangeFunc g ps asg body) → ok f nt asg body ps.toList
  lp : ∀ f nt asg body ps, ok f nt asg body ps → okc f nt asg ∧ okc f nt body ∧ ∀ p ∈ ps, p < nt
  mo : P.follows .mixedOrders = true
section
variable {P : Program} {E : Env} {ok : OkL} {okc : OkC} {z : Int} {ro : Nat} {ih : Tk → R}
theorem evCode_snd (hE : EnvOk P E z) (hX : ExtOk P E) {nm : String} (hV : IvOk P E nm) (hro : E.ro = ro) (hC : OkCs okc) (hR : OkRg P E ok okc nm) (hI : Snd P ok okc ro z ih) : ∀ c ct st k L ρ X w0 w a nt r, evCode E ih c ct st k = some L → okc ct.f nt c → StOk ok ro z X w0 ρ nt st a w → RdOk ρ ct.r r →
    c.wpIn (Cx.Fw r) 0 P (CodeP ok ro z X w0 ρ nt k L) a w := fun c ct st k L ρ X w0 w a nt r h hc hst hr =>
  code_snd hI hC h hc hst hr (fun id ops dr e => by
    subst e
    cases dr with
    | false => exact region_text_ok hE hX hV hro hI hR.lp (hR.ops hc) hr h hst
    | true => exact region_draw_ok hE hX hV hro hI hR.lp (hR.ops hc) hR.mo (hR.pl hc) hr h hst)
    (fun g ps asg body e => by
      subst e
      exact rangeF_ok hro hI (hR.rf hc) hr h hst)
end
end Go.Ev

namespace Go.Ev
set_option linter.unusedVariables false
set_option linter.unusedSimpArgs false
set_option linter.constructorNameAsVariable false
open Go
/-- the block that a list names at i -/
def atL (l : List (Nat × Bk)) (i : Nat) : Option Bk := match l with
  | [] => none
  | p :: r => if i = p.1 then some p.2 else atL r i
theorem atL_cons (p : Nat × Bk) (r : List (Nat × Bk)) (i : Nat) : atL (p :: r) i = if i = p.1 then some p.2 else atL r i := rfl
theorem ofL_get : ∀ (l : List (Nat × Bk)) (H : T Bk) (i : Nat), T.get (ofL l H) i = (match atL l i with | some b => some b | none => T.get H i)
  | [], H, i => rfl
  | p :: r, H, i => by
    have e : ofL (p :: r) H = T.put (some p.2) (ofL r H) p.1 := rfl
    rw [e, T.get_put, ofL_get r H i]
    rw [atL_cons]
    by_cases h : i = p.1
    · rw [if_pos h, if_pos h]
    · rw [if_neg h, if_neg h]
theorem dropP_get : ∀ (l : List (Nat × Bk)) (H : T Bk) (i : Nat), T.get (dropP l H) i = if (atL l i).isSome then none else T.get H i
  | [], H, i => rfl
  | p :: r, H, i => by
    have e : dropP (p :: r) H = T.put none (dropP r H) p.1 := rfl
    rw [e, T.get_put, dropP_get r H i]
    rw [atL_cons]
    by_cases h : i = p.1
    · rw [if_pos h, if_pos h]; rfl
    · rw [if_neg h, if_neg h]
theorem hasPre_spec {H : T Bk} : ∀ {l : List (Nat × Bk)}, hasPre H l = true → ∀ p ∈ l, T.get H p.1 = some p.2
  | [], _, p, hp => by cases hp
  | q :: r, h, p, hp => by
    replace h : optR false (fun b => ite_ (eqBk q.2 b) (hasPre H r) false) (T.get H q.1) = true := h
    rw [optR_eq] at h
    cases hb : T.get H q.1 with
    | none => rw [hb] at h; cases h
    | some b =>
      rw [hb] at h
      simp only [ite_eq] at h
      split at h
      · rename_i he
        rcases List.mem_cons.1 hp with rfl | hp
        · rw [hb, eqBk_spec he]
        · exact hasPre_spec h p hp
      · cases h
theorem atL_mem : ∀ {l : List (Nat × Bk)} {i : Nat} {b : Bk}, atL l i = some b → (i, b) ∈ l
  | [], i, b, h => by cases h
  | p :: r, i, b, h => by
    rw [atL_cons] at h
    by_cases hi : i = p.1
    · rw [if_pos hi] at h; cases h; rw [hi]; exact List.mem_cons_self ..
    · rw [if_neg hi] at h; exact List.mem_cons_of_mem _ (atL_mem h)
section
variable {ok : OkL} {z : Int} {ro : Nat} {ρ : Rho} {X : Xz} {w0 w : World} {H : T Bk} {n : Nat}
/-- the blocks of a list -/
def Xo (ρ : Rho) (X : Xz) (H : T Bk) (pre : List (Nat × Bk)) : Xz := ⟨fun m => ∃ i b B N, atL pre i = some b ∧ ρ i = some (m, B, N), fun i => X.z i ∨ ∃ b, T.get H i = some b ∧ ρ i = none⟩
/-- a call's own part of the memory -/
theorem Mr.over (h : Mr ok ro z ρ X w0 H n w) {pre : List (Nat × Bk)} (hp : ∀ i b, atL pre i = some b → T.get H i = some b) : Mr ok ro z ρ (Xo ρ X H pre) w (ofL pre .nil) n w := by
  have key : ∀ i b, T.get (ofL pre .nil) i = some b → atL pre i = some b ∧ T.get H i = some b := fun i b hb => by
    rw [ofL_get] at hb
    cases ha : atL pre i with
    | none => rw [ha] at hb; cases hb
    | some c => rw [ha] at hb; cases hb; exact ⟨rfl, hp i _ ha⟩
  exact ⟨Cx.Ext.refl _ _, fun i b x hb hx => h.own i b x (key i b hb).2 hx, fun i b x hb hx _ => .inl ⟨i, b, x.2.1, x.2.2, (key i b hb).1, hx⟩, fun i j b c x y h1 h2 => h.inj i j b c x y (key i b h1).2 (key j c h2).2, h.new, fun i b hb => h.dom i b (key i b hb).2, h.ron, fun i hz => hz.elim (h.pz i) fun ⟨b, g1, g2⟩ => ⟨g2, h.dom i b g1⟩⟩
/-- what a call has left of its part, laid over the rest -/
theorem Mr.back {ρ2 : Rho} {w2 : World} {H2 : T Bk} {n2 m : Nat} {pre bs : List (Nat × Bk)} (h : Mr ok ro z ρ X w0 H n w) (hp : ∀ i b, atL pre i = some b → T.get H i = some b ∧ ro ≤ i) (hle : Rle ρ ρ2) (h2 : Mr ok ro z ρ2 (Xo ρ X H pre) w H2 n2 w2)
    (hb : ∀ i b, atL bs i = some b → T.get H2 i = some b ∧ ro ≤ i) (hn : n ≤ m) (hm : n2 ≤ m) : Mr ok ro z ρ2 X w0 (ofL bs (dropP pre H)) m w2 := by
  have key : ∀ i b, T.get (ofL bs (dropP pre H)) i = some b → (T.get H2 i = some b ∧ ro ≤ i) ∨ (atL bs i = none ∧ atL pre i = none ∧ T.get H i = some b) := fun i b hg => by
    rw [ofL_get] at hg
    cases ha : atL bs i with
    | some c => rw [ha] at hg; cases hg; exact .inl (hb i _ ha)
    | none =>
      rw [ha, dropP_get] at hg
      cases hq : atL pre i with
      | some c => rw [hq] at hg; cases hg
      | none => rw [hq] at hg; exact .inr ⟨rfl, rfl, hg⟩
  -- a block of the rest is as it was
  have rest : ∀ i b x, atL pre i = none → T.get H i = some b → ρ2 i = some x → ρ i = some x ∧ ¬ (Xo ρ X H pre).b x.1 ∧ x.1 < w.heap.size := fun i b x hq hg hx => by
    cases hr : ρ i with
    | none => rw [(h2.pz i (.inr ⟨b, hg, hr⟩)).1] at hx; cases hx
    | some y =>
      have := hle i y hr
      rw [hx] at this; cases this
      refine ⟨rfl, fun ⟨i', b', B, N, g1, g2⟩ => ?_, h.lt hg hr⟩
      have := h.inj i i' b b' x _ hg (hp i' b' g1).1 hr g2 rfl
      rw [this, g1] at hq; cases hq
  have out : ∀ m, m < w0.heap.size → ¬ X.b m → ¬ (Xo ρ X H pre).b m := fun m hm hX ⟨i, b, B, N, g1, g2⟩ => by
    rcases h.fr i b _ (hp i b g1).1 g2 (hp i b g1).2 with g | g
    · exact hX g
    · exact absurd hm (Nat.not_lt.2 g)
  refine ⟨⟨h2.ext.os.trans h.ext.os, h2.ext.tape.trans h.ext.tape, h2.ext.output.trans h.ext.output, Nat.le_trans h.ext.size h2.ext.size, fun k hk hX => (h2.ext.same k (Nat.lt_of_lt_of_le hk h.ext.size) (out k hk hX)).trans (h.ext.same k hk hX)⟩, fun i b x hg hx => ?_, fun i b x hg hx hr => ?_, fun i j b c x y h1 h3 hx hy e => ?_, fun i hi => h2.new i (Nat.le_trans hm hi), fun i b hg => ?_, Nat.le_trans h.ron hn, fun i hz => ⟨(h2.pz i (.inl hz)).1, Nat.lt_of_lt_of_le (h2.pz i (.inl hz)).2 hm⟩⟩
  · rcases key i b hg with g | ⟨_, g1, g2⟩
    · exact h2.own i b x g.1 hx
    · obtain ⟨r1, r2, r3⟩ := rest i b x g1 g2 hx
      obtain ⟨o, o1, o2⟩ := h.own i b x g2 r1
      exact ⟨o, (h2.ext.same _ r3 r2).trans o1, o2.mono hle⟩
  · rcases key i b hg with g | ⟨_, g1, g2⟩
    · rcases h2.fr i b x g.1 hx hr with ⟨i', b', B, N, q1, q2⟩ | q
      · exact h.fr i' b' (x.1, B, N) (hp i' b' q1).1 q2 (hp i' b' q1).2
      · exact .inr (Nat.le_trans h.ext.size q)
    · exact h.fr i b x g2 (rest i b x g1 g2 hx).1 hr
  · have mix : ∀ i j b c x y, (T.get H2 i = some b ∧ ro ≤ i) → (atL pre j = none ∧ T.get H j = some c) → ρ2 i = some x → ρ2 j = some y → x.1 = y.1 → False := fun i j b c x y g q hx hy e => by
      obtain ⟨r1, r2, r3⟩ := rest j c y q.1 q.2 hy
      rcases h2.fr i b x g.1 hx g.2 with g3 | g3
      · exact r2 (e ▸ g3)
      · omega
    rcases key i b h1 with g | ⟨_, g1, g2⟩ <;> rcases key j c h3 with q | ⟨_, q1, q2⟩
    · exact h2.inj i j b c x y g.1 q.1 hx hy e
    · exact (mix i j b c x y g ⟨q1, q2⟩ hx hy e).elim
    · exact (mix j i c b y x q ⟨g1, g2⟩ hy hx e.symm).elim
    · exact h.inj i j b c x y g2 q2 (rest i b x g1 g2 hx).1 (rest j c y q1 q2 hy).1 e
  · rcases key i b hg with g | ⟨_, _, g2⟩
    · exact Nat.lt_of_lt_of_le (h2.dom i b g.1) hm
    · exact Nat.lt_of_lt_of_le (h.dom i b g2) hn
end
end Go.Ev
