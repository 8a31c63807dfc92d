/- Plain law of a journal on a device that may crash: what holds while records are appended, and what is found in the end. No condition. -/
import Derived.Test.YthailbggeafckaaPlM
namespace Go.Pl
set_option linter.unusedVariables false
set_option linter.unusedSimpArgs false
def goodR (b k : Int) (r : Rc) : Prop := okRc r ∧ rright r = true ∧ (r.bs.length : Int) ≤ b ∧ r.bs.length ≤ 200 ∧ r.id = k ∧ 1 ≤ r.sq
structure JI (C0 : List UInt8) (f N : Nat) (b k : Int) (sz cnt : Nat) (D : Dv) (S : Jn) (kn : List Rc) : Prop where
  ok : okDv D
  dn : D.dn = false
  ca : D.ca = []
  hsz : D.sz = sz
  hcnt : D.cnt = cnt
  out : ∀ j, (j < f * sz ∨ (f + 2 * N) * sz ≤ j) → D.dk[j]? = C0[j]?
  nn : ∃ n : Nat, n ≤ kn.length ∧ S.nx = (n : Int) + 1 ∧ ((n = 0 ∧ S.has = false ∧ S.la = rc0 ∧ SlotIs D f N 0 none ∧ SlotIs D f N 1 none) ∨
    (1 ≤ n ∧ S.has = true ∧ goodR b k S.la ∧ S.la.sq = n ∧ SlotIs D f N (n % 2) (some S.la) ∧ ∃ o, SlotIs D f N ((n + 1) % 2) o ∧ ∀ q, o = some q → goodR b k q ∧ q.sq < n))
  kno : ∀ x ∈ kn, x.id = k ∧ x.sq ≤ S.nx ∧ 1 ≤ x.sq ∧ (acc b x → x.sq < S.nx ∧ (x.sq + 1 = S.nx → x = S.la))
structure JFin (C0 : List UInt8) (f N : Nat) (k : Int) (sz cnt : Nat) (D : Dv) (S : Jn) (nx : Rc) (kn : List Rc) : Prop where
  ok : okDv D
  hsz : D.sz = sz
  hcnt : D.cnt = cnt
  out : ∀ j, (j < f * sz ∨ (f + 2 * N) * sz ≤ j) → D.dk[j]? = C0[j]?
  concl : (∀ i, i < 2 → ∀ x, rdec ((D.dk.drop (jat D f N i)).take ((f + 2 * N) * sz - jat D f N i)) = some x → x ∈ kn) →
    ((jopen (sDv D) f N k).has = S.has ∧ ((jopen (sDv D) f N k).has = true → (jopen (sDv D) f N k).la = S.la)) ∨ ((jopen (sDv D) f N k).has = true ∧ (jopen (sDv D) f N k).la = nx)
theorem SlotIs.eq {D E : Dv} {f N i : Nat} {o : Option Rc} (hdk : E.dk = D.dk) (hsz : E.sz = D.sz) (h : SlotIs D f N i o) : SlotIs E f N i o := by
  have hat : jat E f N i = jat D f N i := by unfold jat; rw [hsz]
  cases o with
  | none => intro j hj; rw [hdk, hat]; exact h j (by rw [← hsz]; exact hj)
  | some r =>
    obtain ⟨h1, h2, h3, h4⟩ := h
    exact ⟨h1, h2, by rw [hsz]; exact h3, fun j hj => by rw [hdk, hat]; exact h4 j hj⟩
theorem sDv_eq {D : Dv} : (sDv D).dk = D.dk ∧ (sDv D).sz = D.sz ∧ (sDv D).cnt = D.cnt ∧ (sDv D).ca = [] ∧ (sDv D).dn = false := ⟨pers_none _ _ _ _, rfl, rfl, rfl, rfl⟩
theorem best_a {k : Int} {la : Rc} {o : Option Rc} (hk : la.id = k) (ho : ∀ q, o = some q → q.id = k ∧ (q.sq < la.sq ∨ q = la)) : (jof k ((some la).toList ++ o.toList)).has = true ∧ (jof k ((some la).toList ++ o.toList)).la = la := by
  cases o with
  | none =>
    have e : ([la].filter fun r => decide (r.id = k)) = [la] := by rw [List.filter_cons_of_pos (by simpa using hk)]; rfl
    show (jof k [la]).has = true ∧ (jof k [la]).la = la
    unfold jof
    rw [e]
    exact ⟨rfl, rfl⟩
  | some q =>
    obtain ⟨h1, h2⟩ := ho q rfl
    have e : ([la, q].filter fun r => decide (r.id = k)) = [la, q] := by rw [List.filter_cons_of_pos (by simpa using hk), List.filter_cons_of_pos (by simpa using h1)]; rfl
    show (jof k [la, q]).has = true ∧ (jof k [la, q]).la = la
    unfold jof
    rw [e]
    refine ⟨rfl, ?_⟩
    show (if la.sq < q.sq then q else la) = la
    rcases h2 with h2 | rfl
    · rw [if_neg (by omega)]
    · split <;> rfl
theorem best_b {k : Int} {la : Rc} {o : Option Rc} (hk : la.id = k) (ho : ∀ q, o = some q → q.id = k ∧ (q.sq < la.sq ∨ q = la)) : (jof k (o.toList ++ (some la).toList)).has = true ∧ (jof k (o.toList ++ (some la).toList)).la = la := by
  cases o with
  | none => exact best_a (o := none) hk (fun q h => by cases h)
  | some q =>
    obtain ⟨h1, h2⟩ := ho q rfl
    have e : ([q, la].filter fun r => decide (r.id = k)) = [q, la] := by rw [List.filter_cons_of_pos (by simpa using h1), List.filter_cons_of_pos (by simpa using hk)]; rfl
    show (jof k [q, la]).has = true ∧ (jof k [q, la]).la = la
    unfold jof
    rw [e]
    refine ⟨rfl, ?_⟩
    show (if q.sq < la.sq then la else q) = la
    rcases h2 with h2 | rfl
    · rw [if_pos h2]
    · split <;> rfl
/-- two slots, one of which holds the best record -/
theorem best_slots {E : Dv} {f N p : Nat} {k : Int} {la : Rc} {o : Option Rc} (hp : p < 2) (h1 : jrec E f N p = some la) (h2 : jrec E f N (1 - p) = o) (hk : la.id = k) (ho : ∀ q, o = some q → q.id = k ∧ (q.sq < la.sq ∨ q = la)) : (jopen E f N k).has = true ∧ (jopen E f N k).la = la := by
  unfold jopen jrecs
  rcases (show p = 0 ∨ p = 1 by omega) with rfl | rfl
  · rw [h1, show (1 : Nat) = 1 - 0 from rfl, h2]; exact best_a hk ho
  · rw [h1, show (0 : Nat) = 1 - 1 from rfl, h2]; exact best_b hk ho
theorem JI.fin {C0 : List UInt8} {f N sz cnt : Nat} {b k : Int} {D : Dv} {S : Jn} {kn : List Rc} (h : JI C0 f N b k sz cnt D S kn) (h2 : f + 2 * N ≤ cnt) (hN : 1 ≤ N) (nx : Rc) : JFin C0 f N k sz cnt D S nx kn := by
  refine ⟨h.ok, h.hsz, h.hcnt, h.out, fun _ => .inl ?_⟩
  obtain ⟨s1, s2, s3, s4, s5⟩ := sDv_eq (D := D)
  have hr := ok_restart h.ok
  have key : ∀ i o, i < 2 → SlotIs D f N i o → jrec (sDv D) f N i = o := fun i o hi hs => jrec_slot hr s5 s4 hN (by rw [s3, h.hcnt]; exact h2) hi (hs.eq s1 s2)
  obtain ⟨n, hn, hx, ⟨rfl, n1, n2, n3, n4⟩ | ⟨n0, n1, n2, n3, n4, o, n5, n6⟩⟩ := h.nn
  · have e : jrecs (sDv D) f N = [] := by unfold jrecs; rw [key 0 none (by decide) n3, key 1 none (by decide) n4]; rfl
    have e2 : jopen (sDv D) f N k = ⟨1, false, rc0⟩ := by unfold jopen; rw [e]; rfl
    rw [e2, n1]
    exact ⟨rfl, fun h9 => by cases h9⟩
  · have hp : n % 2 < 2 := Nat.mod_lt _ (by decide)
    have := best_slots (k := k) hp (key _ _ hp n4) (by rw [show 1 - n % 2 = (n + 1) % 2 by omega]; exact key _ _ (Nat.mod_lt _ (by decide)) n5) n2.2.2.2.2.1 fun q hq => ⟨(n6 q hq).1.2.2.2.2.1, .inl (by rw [n3]; exact (n6 q hq).2)⟩
    exact ⟨by rw [this.1, n1], fun _ => this.2⟩
theorem JI.start {D E : Dv} {f N : Nat} {b k : Int} (h : JFm D f N E) : JI E.dk f N b k D.sz D.cnt E ⟨1, false, rc0⟩ [] := by
  have key : ∀ i, i < 2 → SlotIs E f N i none := fun i hi j hj => by
    have e1 : f * D.sz ≤ (f + i * N) * D.sz := Nat.mul_le_mul_right _ (by omega)
    have e2 : (f + i * N) * D.sz + N * D.sz = (f + i * N + N) * D.sz := by rw [Nat.add_mul (f + i * N)]
    have e3 : (f + i * N + N) * D.sz ≤ (f + 2 * N) * D.sz := Nat.mul_le_mul_right _ (by rcases (show i = 0 ∨ i = 1 by omega) with h | h <;> rw [h] <;> omega)
    rw [h.sz] at hj
    unfold jat
    rw [h.sz, h.dk, if_pos (by omega)]
  exact ⟨h.ok, h.dn, h.ca, h.sz, h.cnt, fun _ _ => rfl, ⟨0, Nat.le_refl _, rfl, .inl ⟨rfl, rfl, rfl, key 0 (by decide), key 1 (by decide)⟩⟩, fun x hx => by cases hx⟩
theorem JI.arm {C0 : List UInt8} {f N sz cnt : Nat} {b k : Int} {D : Dv} {S : Jn} {kn : List Rc} (h : JI C0 f N b k sz cnt D S kn) {n p : Int} (hn : I64 n) (hp : 0 ≤ p ∧ p ≤ 18446744073709551615) : JI C0 f N b k sz cnt (aDv D n p) S kn := by
  refine ⟨ok_arm h.ok hn hp, h.dn, h.ca, h.hsz, h.hcnt, h.out, ?_, h.kno⟩
  obtain ⟨n, hn, hx, ⟨n0, n1, n2, n3, n4⟩ | ⟨n0, n1, n2, n3, n4, o, n5, n6⟩⟩ := h.nn
  · exact ⟨n, hn, hx, .inl ⟨n0, n1, n2, n3.eq rfl rfl, n4.eq rfl rfl⟩⟩
  · exact ⟨n, hn, hx, .inr ⟨n0, n1, n2, n3, n4.eq rfl rfl, o, n5.eq rfl rfl, n6⟩⟩
theorem jat_two {D : Dv} {f N i : Nat} (hi : i < 2) : jat D f N i = f * D.sz + i * (N * D.sz) := by
  unfold jat
  rw [Nat.add_mul, Nat.mul_assoc]
/-- the other slot keeps what it holds -/
theorem SlotIs.keep {D E : Dv} {f N i q : Nat} {o : Option Rc} {L : Nat} (hsz : E.sz = D.sz) (hi : i < 2) (hq : q < 2) (hne : i ≠ q) (hL : L ≤ N * D.sz) (hdk : ∀ j, ¬ (jat D f N q ≤ j ∧ j < jat D f N q + L) → E.dk[j]? = D.dk[j]?) (h : SlotIs D f N i o) : SlotIs E f N i o := by
  have hat : jat E f N i = jat D f N i := by unfold jat; rw [hsz]
  have a1 := jat_two (D := D) (f := f) (N := N) hi
  have a2 := jat_two (D := D) (f := f) (N := N) hq
  have out : ∀ j, j < N * D.sz → ¬ (jat D f N q ≤ jat D f N i + j ∧ jat D f N i + j < jat D f N q + L) := fun j hj => by
    rw [a1, a2]
    rcases (show (i = 0 ∧ q = 1) ∨ (i = 1 ∧ q = 0) by omega) with ⟨rfl, rfl⟩ | ⟨rfl, rfl⟩ <;> simp only [Nat.zero_mul, Nat.one_mul] <;> omega
  cases o with
  | none => intro j hj; rw [hsz] at hj; rw [hat, hdk _ (out j hj)]; exact h j hj
  | some r =>
    obtain ⟨h1, h2, h3, h4⟩ := h
    exact ⟨h1, h2, by rw [hsz]; exact h3, fun j hj => by rw [hat, hdk _ (out j (by omega))]; exact h4 j hj⟩
theorem MixB.out {f bs h : List UInt8} {a j : Nat} (hm : MixB f a bs h) (hj : ¬ (a ≤ j ∧ j < a + bs.length)) : h[j]? = f[j]? := (hm.2 j).elim id fun h9 => absurd ⟨h9.1, h9.2.1⟩ hj
section
variable {C0 : List UInt8} {f N sz cnt : Nat} {b k : Int} {D : Dv} {S : Jn} {kn : List Rc}
theorem JI.step (h : JI C0 f N b k sz cnt D S kn) (h2 : f + 2 * N ≤ cnt) (hN : 1 ≤ N) (hb0 : 0 ≤ b) (hb : b + 44 ≤ (N : Int) * (sz : Int)) {r : Rc} (hr : okRc r) (hl : r.bs.length ≤ 200) (hid : r.id = k) (hsq : r.sq = S.nx) (hkn : kn.length ≤ 1000) :
    ((japp D f N b S r).1 ≠ 18 ∧ JI C0 f N b k sz cnt (japp D f N b S r).2.1 (japp D f N b S r).2.2 (kn ++ [r])) ∨
    ((japp D f N b S r).1 = 18 ∧ (japp D f N b S r).2.2 = S ∧ JFin C0 f N k sz cnt (japp D f N b S r).2.1 S r (kn ++ [r])) := by
  obtain ⟨n, hn, hx, hnn⟩ := h.nn
  have hlk : (kn ++ [r]).length = kn.length + 1 := by rw [List.length_append]; rfl
  by_cases ha : acc b r
  · have hcast : ((N * D.sz : Nat) : Int) = (N : Int) * (D.sz : Int) := Int.natCast_mul N D.sz
    have hbD : b + 44 ≤ (N : Int) * (D.sz : Int) := by rw [h.hsz]; exact hb
    have h2D : f + 2 * N ≤ D.cnt := by rw [h.hcnt]; exact h2
    have hEl := renc_len r
    have ha2 := ha.2
    have hLs : (renc r).length ≤ N * D.sz := by omega
    have hq2 := jslot_lt S
    have hqn : jslotN S = (n + 1) % 2 := by unfold jslotN; rw [hx]; omega
    have hgr : goodR b k r := ⟨hr, ha.1, ha.2, hl, hid, by rw [hsq, hx]; omega⟩
    have h1 := jat_le h2D hq2
    have a2 := jat_two (D := D) (f := f) (N := N) hq2
    have hreg : ∀ j, (j < f * sz ∨ (f + 2 * N) * sz ≤ j) → ¬ (jat D f N (jslotN S) ≤ j ∧ j < jat D f N (jslotN S) + (renc r).length) := fun j hj => by
      have e1 : (f + 2 * N) * sz = f * D.sz + 2 * (N * D.sz) := by rw [← h.hsz, Nat.add_mul, Nat.mul_assoc]
      rw [e1, ← h.hsz] at hj
      rw [a2]
      rcases (show jslotN S = 0 ∨ jslotN S = 1 by omega) with e | e <;> rw [e] <;> simp only [Nat.zero_mul, Nat.one_mul] <;> omega
    rcases japp_gen h.ok h.dn h.ca h2D hbD ha with ⟨j1, j2, j3⟩ | ⟨j1, j2, j3⟩
    · left
      rw [j2]
      generalize (japp D f N b S r).2.1 = E at j3
      have hw : IntKind.u64.wrap (S.nx + 1) = (n : Int) + 2 := by
        have e : IntKind.u64.wrap (S.nx + 1) = (S.nx + 1) % 18446744073709551616 := by simp [IntKind.wrap, IntKind.signed, IntKind.bits]
        rw [e, hx]; omega
      rw [hw]
      have hdk : ∀ j, ¬ (jat D f N (jslotN S) ≤ j ∧ j < jat D f N (jslotN S) + (renc r).length) → E.dk[j]? = D.dk[j]? := fun j hj => by rw [j3.dk, if_neg hj]
      have hatE : jat E f N (jslotN S) = jat D f N (jslotN S) := by unfold jat; rw [j3.sz]
      have hnew : SlotIs E f N (jslotN S) (some r) := ⟨hr, ha.1, by rw [j3.sz]; exact hLs, fun j hj => by rw [hatE, j3.dk, if_pos (by omega)]; congr 1; omega⟩
      refine ⟨by rw [j1]; decide, j3.ok, j3.dn, j3.ca, j3.sz.trans h.hsz, j3.cnt.trans h.hcnt, fun j hj => by rw [hdk j (hreg j hj)]; exact h.out j hj, ⟨n + 1, by omega, by show (n : Int) + 2 = _; omega, .inr ⟨by omega, rfl, hgr, by show r.sq = _; rw [hsq, hx]; omega, by rw [← hqn]; exact hnew, ?_⟩⟩, ?_⟩
      · rcases hnn with ⟨rfl, n1, n2, n3, n4⟩ | ⟨n0, n1, n2, n3, n4, o, n5, n6⟩
        · exact ⟨none, n3.keep j3.sz (by decide) hq2 (by rw [hqn]; decide) hLs hdk, fun q h9 => by cases h9⟩
        · refine ⟨some S.la, ?_, fun q h9 => by cases h9; exact ⟨n2, by rw [n3]; omega⟩⟩
          rw [show (n + 1 + 1) % 2 = n % 2 by omega]
          exact n4.keep j3.sz (Nat.mod_lt _ (by decide)) hq2 (by rw [hqn]; omega) hLs hdk
      · intro x hx9
        rcases List.mem_append.1 hx9 with h9 | h9
        · obtain ⟨k1, k2, k3, k4⟩ := h.kno x h9
          refine ⟨k1, by show x.sq ≤ (n : Int) + 2; omega, k3, fun h8 => ?_⟩
          have := (k4 h8).1
          exact ⟨by show x.sq < (n : Int) + 2; omega, fun h7 => by have h7' : x.sq + 1 = (n : Int) + 2 := h7; omega⟩
        · rw [List.mem_singleton.1 h9]
          exact ⟨hid, by show r.sq ≤ (n : Int) + 2; omega, hgr.2.2.2.2.2, fun _ => ⟨by show r.sq < (n : Int) + 2; omega, fun _ => rfl⟩⟩
    · right
      refine ⟨j1, j2, ?_⟩
      generalize (japp D f N b S r).2.1 = E at j3
      have hdk : ∀ j, ¬ (jat D f N (jslotN S) ≤ j ∧ j < jat D f N (jslotN S) + (renc r).length) → E.dk[j]? = D.dk[j]? := fun j hj => j3.dk.out hj
      refine ⟨j3.ok, j3.sz.trans h.hsz, j3.cnt.trans h.hcnt, fun j hj => by rw [hdk j (hreg j hj)]; exact h.out j hj, fun hkn9 => ?_⟩
      obtain ⟨s1, s2, s3, s4, s5⟩ := sDv_eq (D := E)
      have hrE := ok_restart j3.ok
      have h2E : f + 2 * N ≤ (sDv E).cnt := by rw [s3, j3.cnt]; exact h2D
      have key : ∀ i o, i < 2 → i ≠ jslotN S → SlotIs D f N i o → jrec (sDv E) f N i = o := fun i o hi hne hs => jrec_slot hrE s5 s4 hN h2E hi ((hs.keep j3.sz hi hq2 hne hLs hdk).eq s1 s2)
      -- what is read in the slot that was written
      have hread : ∀ x, jrec (sDv E) f N (jslotN S) = some x → x = r ∨ (x ∈ kn ∧ acc b x) := fun x hx9 => by
        have hmem : x ∈ kn ++ [r] := by
          refine hkn9 (jslotN S) hq2 x ?_
          have hx8 := hx9
          unfold jrec rdB at hx8
          have ec : contents (sDv E) = E.dk := by unfold contents; rw [s4, ← s1]; rfl
          have ea : jat (sDv E) f N (jslotN S) = jat E f N (jslotN S) := by unfold jat; rw [s2]
          rw [if_pos (jcode hrE s5 h2E hq2), Int.toNat_natCast, Int.toNat_natCast, ec, ea, s2] at hx8
          have a3 := jat_two (D := E) (f := f) (N := N) hq2
          have e1 : (f + 2 * N) * sz = f * E.sz + 2 * (N * E.sz) := by rw [← h.hsz, ← j3.sz, Nat.add_mul, Nat.mul_assoc]
          have hM : N * E.sz ≤ (f + 2 * N) * sz - jat E f N (jslotN S) := by
            rw [e1, a3]
            rcases (show jslotN S = 0 ∨ jslotN S = 1 by omega) with e | e <;> rw [e] <;> simp only [Nat.zero_mul, Nat.one_mul] <;> omega
          generalize (f + 2 * N) * sz - jat E f N (jslotN S) = M at hM ⊢
          have e2 : (E.dk.drop (jat E f N (jslotN S))).take M = (E.dk.drop (jat E f N (jslotN S))).take (N * E.sz) ++ ((E.dk.drop (jat E f N (jslotN S))).take M).drop (N * E.sz) := by
            conv => lhs; rw [← List.take_append_drop (N * E.sz) ((E.dk.drop (jat E f N (jslotN S))).take M)]
            rw [List.take_take, Nat.min_eq_left hM]
          rw [e2]
          exact rdec_more hx8
        rcases List.mem_append.1 hmem with h9 | h9
        · refine .inr ⟨h9, ?_⟩
          have hbl : (x.bs.length : Int) ≤ b := by
            have hmx : MixB D.dk (jat D f N (jslotN S)) (renc r) (sDv E).dk := by rw [s1]; exact j3.dk
            have h45 : 44 ≤ N * D.sz := by omega
            rcases hnn with ⟨rfl, n1, n2, n3, n4⟩ | ⟨n0, n1, n2, n3, n4, o, n5, n6⟩
            · refine slot_mix (D := D) (o := none) hrE s5 s4 (s2.trans j3.sz) h2E hq2 h45 (by rw [hqn]; exact n4) (fun q h8 => by cases h8) hr ha.1 ha.2 (by omega) hb0 hmx hx9
            · exact slot_mix (D := D) (o := o) hrE s5 s4 (s2.trans j3.sz) h2E hq2 h45 (by rw [hqn]; exact n5) (fun q h8 => ⟨(n6 q h8).1.2.2.1, by have := (n6 q h8).1.2.2.2.1; omega⟩) hr ha.1 ha.2 (by omega) hb0 hmx hx9
          refine ⟨?_, hbl⟩
          unfold jrec at hx9
          exact (rdec_dat hx9).1
        · exact .inl (List.mem_singleton.1 h9)
      rcases hnn with ⟨rfl, n1, n2, n3, n4⟩ | ⟨n0, n1, n2, n3, n4, o, n5, n6⟩
      · have hq1 : jslotN S = 1 := by rw [hqn]
        have k0 := key 0 none (by decide) (by rw [hq1]; decide) n3
        cases hq : jrec (sDv E) f N (jslotN S) with
        | none =>
          left
          rw [hq1] at hq
          have e : jrecs (sDv E) f N = [] := by unfold jrecs; rw [k0, hq]; rfl
          have e2 : jopen (sDv E) f N k = ⟨1, false, rc0⟩ := by unfold jopen; rw [e]; rfl
          rw [e2, n1]
          exact ⟨rfl, fun h9 => by cases h9⟩
        | some x =>
          right
          have hxr : x = r := (hread x hq).resolve_right fun h9 => by
            have := (h.kno x h9.1)
            have h8 := (this.2.2.2 h9.2).1
            have h7 := this.2.2.1
            rw [hx] at h8
            omega
          subst hxr
          exact best_slots (k := k) (o := none) hq2 hq (by rw [hq1]; exact k0) hid fun q h9 => by cases h9
      · have hp : n % 2 < 2 := Nat.mod_lt _ (by decide)
        have hpq : 1 - n % 2 = jslotN S := by rw [hqn]; omega
        have kp := key (n % 2) (some S.la) hp (by rw [hqn]; omega) n4
        cases hq : jrec (sDv E) f N (jslotN S) with
        | none =>
          left
          have := best_slots (k := k) (o := none) hp kp (by rw [hpq]; exact hq) n2.2.2.2.2.1 fun q h9 => by cases h9
          exact ⟨by rw [this.1, n1], fun _ => this.2⟩
        | some x =>
          rcases hread x hq with rfl | ⟨hxk, hxa⟩
          · right
            exact best_slots (k := k) (o := some S.la) hq2 hq (by rw [show 1 - jslotN S = n % 2 by rw [hqn]; omega]; exact kp) hid fun q h9 => by cases h9; exact ⟨n2.2.2.2.2.1, .inl (by rw [n3, hsq, hx]; omega)⟩
          · left
            obtain ⟨k1, k2, k3, k4⟩ := h.kno x hxk
            obtain ⟨k5, k6⟩ := k4 hxa
            have := best_slots (k := k) (o := some x) hp kp (by rw [hpq]; exact hq) n2.2.2.2.2.1 fun q h9 => by
              cases h9
              refine ⟨k1, ?_⟩
              by_cases h8 : x.sq + 1 = S.nx
              · exact .inr (k6 h8)
              · exact .inl (by rw [n3]; omega)
            exact ⟨by rw [this.1, n1], fun _ => this.2⟩
  · left
    rw [japp_no ha]
    refine ⟨show (2 : Int) ≠ 18 by decide, h.ok, h.dn, h.ca, h.hsz, h.hcnt, h.out, ⟨n, by omega, hx, hnn⟩, fun x hx9 => ?_⟩
    rcases List.mem_append.1 hx9 with h9 | h9
    · exact h.kno x h9
    · rw [List.mem_singleton.1 h9]
      exact ⟨hid, by rw [hsq]; exact Int.le_refl _, by rw [hsq, hx]; omega, fun h8 => absurd h8 ha⟩
end
end Go.Pl
