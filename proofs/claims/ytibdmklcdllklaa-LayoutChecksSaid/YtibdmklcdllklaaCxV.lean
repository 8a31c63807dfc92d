/- Glue for devices: their own blocks, copies into parts of own slices. No condition. -/
import Derived.Test.YtibdmklcdllklaaCxM
import Derived.Test.YtibdmklcdllklaaCxT
import Derived.Test.YtibdmklcdllklaaPlV
namespace Go.Cx
set_option linter.unusedVariables false
set_option linter.unusedSimpArgs false
open Go
/-- these blocks are laid as they are listed -/
def OwnZ (w : World) (Z : List (Nat × Blk)) : Prop := (∀ p, p ∈ Z → p.2.real = true → w.heap[p.1]? = some p.2.toObj) ∧ (reals Z).Nodup
theorem Mem.ownZ {w0 w : World} {X : Bs} {L : List (Nat × Blk)} (h : Mem w0 w X L) : OwnZ w L := ⟨h.own, h.nodup⟩
theorem OwnZ.start {w : World} {Z : List (Nat × Blk)} (h : OwnZ w Z) : Mem w w (Mn (reals Z)) Z :=
  ⟨rfl, rfl, rfl, Nat.le_refl _, fun _ _ _ => rfl, h.1, fun p hp hr => .inl (mem_reals.2 ⟨p.2, hp, hr⟩), h.2⟩
theorem OwnZ.left {w : World} {A B : List (Nat × Blk)} (h : OwnZ w (A ++ B)) : OwnZ w A := ⟨fun p hp => h.1 p (List.mem_append_left _ hp), by
  have := h.2; rw [reals_app] at this; exact (List.nodup_append.1 this).1⟩
theorem OwnZ.ext {w w' : World} {Z : List (Nat × Blk)} (h : OwnZ w Z) (hx : Ext No w w') : OwnZ w' Z :=
  ⟨fun p hp hr => (hx.same _ (Array.getElem?_eq_some_iff.1 (h.1 p hp hr)).1 id).trans (h.1 p hp hr), h.2⟩
theorem OwnZ.get {w : World} {Z : List (Nat × Blk)} (h : OwnZ w Z) {k n : Nat} {b : Blk} (hk : blk Z k = some (n, b)) (hr : b.real = true := by rfl) : w.heap[n]? = some b.toObj := h.1 (n, b) (blk_mem hk) hr
/-- a call that turns some of one's own blocks -/
theorem Mem.callZ {w0 w w' : World} {X : Bs} {Z Z' L : List (Nat × Blk)} (h : Mem w0 w X (Z ++ L)) (hc : Mem w w' (Mn (reals Z)) Z') : Mem w0 w' X (Z' ++ L) := h.call hc fun _ hk => hk
theorem Mem.callM {w0 w w' : World} {X : Bs} {A Z Z' L : List (Nat × Blk)} (h : Mem w0 w X (A ++ (Z ++ L))) (hc : Mem w w' (Mn (reals Z)) Z') : Mem w0 w' X (A ++ (Z' ++ L)) := by
  have h1 : Mem w0 w X (Z ++ (A ++ L)) := h.perm (by
    rw [← List.append_assoc, ← List.append_assoc]
    exact List.perm_append_comm.append_right L)
  have h2 := h1.callZ hc
  exact h2.perm (by
    rw [← List.append_assoc, ← List.append_assoc]
    exact List.perm_append_comm.append_right L)
theorem Mem.callZL {w0 w w' : World} {X : Bs} {A Z Z' : List (Nat × Blk)} (h : Mem w0 w X (A ++ Z)) (hc : Mem w w' (Mn (reals Z)) Z') : Mem w0 w' X (A ++ Z') := by
  have := Mem.callM (L := []) (by rw [List.append_nil]; exact h) hc
  rwa [List.append_nil] at this
theorem OwnZ.right {w : World} {A B : List (Nat × Blk)} (h : OwnZ w (A ++ B)) : OwnZ w B := ⟨fun p hp => h.1 p (List.mem_append_right _ hp), by
  have := h.2; rw [reals_app] at this; exact (List.nodup_append.1 this).2.1⟩
theorem Mem.notinL {w0 w : World} {X : Bs} {Z : List (Nat × Blk)} {m : Nat} {b : Blk} (h : Mem w0 w X ((m, b) :: Z)) (hb : b.real = true := by rfl) : ¬ Mn (reals Z) m := fun hm => by
  have hn := h.nodup
  rw [reals_cons, if_pos hb, List.nodup_cons] at hn
  exact hn.1 hm
/-- a device's block differs from a slice's block, if the slice has one -/
theorem Mem.neR {w0 w : World} {X : Bs} {L : List (Nat × Blk)} (h : Mem w0 w X L) (i j : Nat) {m n : Nat} {b c : Blk} (hi : blk L i = some (m, b)) (hj : blk L j = some (n, c)) (hij : Nat.beq i j = false) (hb : b.real = true := by rfl) : ¬ (m = n ∧ c.real = true) := fun ⟨e, hc⟩ => h.ne i j hi hj hij hb hc e
theorem Acc.rdO {e es n cap g : Nat} {b : Blk} {q : Option Addr} {cells : List Value} {w : World} {Z : List (Nat × Blk)} (h : Acc e es q n cap cells g b) (hZ : OwnZ w Z) (hin : (g, b) ∈ Z) : Rd w q cells := h.rdM hZ.start hin
theorem Held.rdO {Z : List (Nat × Blk)} {u8 : Nat} {s : SB} {w : World} (h : Held Z u8 s) (hZ : OwnZ w Z) : Rd w s.p (s.bs.flatMap encB) := h.rd hZ.start fun _ he => he
/-- copy into a part of one's own slice -/
theorem Acc.copyL {e es bs g n cap o dl sl sc dc T : Nat} {ts : Array TypeId} {ty : TypeId} {b : Blk} {p q : Option Addr} {cells src : List Value} {w0 w : World} {X : Bs} {L : List (Nat × Blk)} {P : Program} (ha : Acc e es p n cap cells g b) (hm : Mem w0 w X L) (j : Nat) (hj : blk L j = some (g, b)) (ho : o + dl ≤ n)
    (hT : slcO P T = some (e, es, bs)) (hts : ts[0]? = some T) (hq : Rd w q src) (hs : src.length = min sl dl * es) (h1 : src.all (·.oneCell') = true) :
    ∃ b' w', (Builtin.copy_ ts ty #[.slice (slp p cap o es) dl dc, .slice q sl sc]).run P w = .ok (.int .i64 (min sl dl : Nat)) w' ∧ Acc e es p n cap (upds cells (o * es) src) g b' ∧ Mem w0 w' X (setE L j (g, b')) ∧ b'.real = b.real := by
  have hself : ∀ (L : List (Nat × Blk)) (k : Nat) (q : Nat × Blk), blk L k = some q → setE L k q = L := fun L => by
    induction L with
    | nil => intro k q h; simp [blk] at h
    | cons x r ih =>
      intro k q h
      cases k with
      | zero => simp only [blk, Option.some.injEq] at h; subst h; rfl
      | succ k => simp only [setE]; rw [ih k q h]
  have none_ : min sl dl = 0 → ∀ p' : Option Addr, ∃ b' w', (Builtin.copy_ ts ty #[.slice p' dl dc, .slice q sl sc]).run P w = .ok (.int .i64 (min sl dl : Nat)) w' ∧ Acc e es p n cap (upds cells (o * es) src) g b' ∧ Mem w0 w' X (setE L j (g, b')) ∧ b'.real = b.real := fun h0 p' => by
    have hs0 : src = [] := List.length_eq_zero_iff.1 (by rw [hs, h0, Nat.zero_mul])
    subst hs0
    refine ⟨b, w, ?_, ha, by rw [hself L j _ hj]; exact hm, rfl⟩
    rw [h0]
    exact run_copy0 hT hts hq h0 (by cases p' with | none => exact .inl rfl | some a => exact .inr ⟨a, rfl⟩)
  rcases ha.cases' with ⟨h2, h3, _⟩ | ⟨l, rfl, rfl, hnc, hll, htk⟩
  · exact none_ (by omega) _
  · by_cases hco : cap = o
    · exact none_ (by omega) _
    · have hsp : slp (some ⟨g, 0, none⟩) cap o es = some ⟨g, o * es, none⟩ := by unfold slp; rw [if_neg hco]; simp
      have hle2 : n * es ≤ cap * es := Nat.mul_le_mul_right _ hnc
      have hle3 : o * es + dl * es ≤ n * es := by rw [← Nat.add_mul]; exact Nat.mul_le_mul_right _ ho
      have hle4 : min sl dl * es ≤ dl * es := Nat.mul_le_mul_right _ (Nat.min_le_right _ _)
      have hcl := ha.len
      rw [hsp]
      refine ⟨.row e (upds l (o * es) src), _, run_copy hT hts (hm.get hj) (by omega) hq hs h1, ⟨by rw [upds_length, hcl], .inr ⟨_, rfl, rfl, hnc, by rw [upds_length, hll], ?_⟩⟩, ?_, rfl⟩
      · rw [upds_eq src l _ (by omega), upds_eq src cells _ (by omega), ← htk, List.take_append, List.take_append]
        simp only [List.length_take, List.length_append, List.take_take, List.drop_take]
        have e1 : min (n * es) (o * es) = o * es := by omega
        have e2 : min (o * es) (n * es) = o * es := by omega
        have e3 : min (o * es) l.length = o * es := by omega
        rw [e1, e2, e3, List.take_of_length_le (l := src) (by omega)]
      · rw [← setB_eq L j g _ _ hj]
        exact setRow_mem hm hj
section
variable {P : Program} {r : Option Nat} {k : Ks} {ops : Array Oper} {md : Md} {n : Nat} {D : List Deferred} {S : List (Nat × Value)} {w : World} {i : Nat} {t : Tr}
variable {ty : TypeId} {pos : String} {af : Array Edge} {g : Option (Nat × Bool)} {dst : Option Tmp} {d : Nat} {w0 : World} {X : Bs} {L : List (Nat × Blk)}
theorem a_copyL {T e es bs : Nat} {x y : Operand} {ts : Array TypeId} {p q : Option Addr} {na cap o dl dc sl sc gg : Nat} {b : Blk} {cells src : List Value}
    (ho : opu ops S i = some (⟨dst, .call ⟨.builtin .copy, #[x, y], ts⟩, ty, pos, af, g⟩, d)) (hd : Nat.blt d n = true) (hx : ev S x = some (.slice (slp p cap o es) dl dc)) (hy : ev S y = some (.slice q sl sc)) (hts : ts[0]? = some T)
    (hT : slcO P T = some (e, es, bs)) (hle : o + dl ≤ na) (hq : Rd w q src) (hs : src.length = min sl dl * es) (h1 : src.all (·.oneCell') = true) (ha : Acc e es p na cap cells gg b)
    (hm : Mem w0 w X L) (j : Nat) (hj : blk L j = some (gg, b))
    (h : ∀ b' w', Acc e es p na cap (upds cells (o * es) src) gg b' → Mem w0 w' X (setE L j (gg, b')) → HR P r k ops none n D ((d, .int .i64 (min sl dl : Nat)) :: S) t w') : HR P r k ops none n D S (.act i t) w := by
  obtain ⟨b', w', hrun, ha', hm', _⟩ := ha.copyL (dc := dc) (sc := sc) (ty := ty) hm j hj hle hT hts hq hs h1
  refine a_val ho hd rfl (fun a hf => ?_) trivial (h b' w' ha' hm')
  simp only [execOp, resolve, List.map_toArray, List.map_cons, List.map_nil, hf.eval hx, hf.eval hy, Sem.run_bind, Sem.run_pure, Result.andThen_ok, invoke, builtin, hrun]
theorem a_vnl {md : Md} {o : Oper} {v : Value} {w' : World} (ho : opn ops S i = some o) (hp : ndef o = true) (hrun : ∀ a, Fr a n D S → (execOp a.eval o).run P w = .ok (.value v) w')
    (hh : Hold md w') (h : HR P r k ops md n D S t w') : HR P r k ops md n D S (.act i t) w := fun a hf => by
  obtain ⟨h1, h2, h3⟩ := opn_spec ho hf
  refine ⟨o, h1, fun _ => ?_, fun hw => by rw [h2] at hw; cases hw⟩
  unfold OpW
  rw [semAt_of_plain hp, hrun a hf]
  refine ⟨hh, ?_⟩
  rw [h3]
  exact h _ hf
theorem a_clearMapN {T : TypeId} {x : Operand} {m ck : Nat} {es : List (Int × Int × Nat)} (ho : opn ops S i = some ⟨dst, .call ⟨.builtin .clear, #[x], #[T]⟩, ty, pos, af, g⟩) (hx : ev S x = some (.map (some m))) (hT : mapII P T = true)
    (hm : Mem w0 w X L) (j : Nat) (hk : blk L j = some (m, mpB es ck)) (h : ∀ w', Mem w0 w' X (setB L j (mpB [] ck)) → HR P r k ops none n D S t w') : HR P r k ops none n D S (.act i t) w := by
  have h1 := run_clearMap (P := P) (ty := ty) hT (hm.get hk)
  refine a_vnl (v := .tuple ⟨[]⟩) ho rfl (fun a hf => ?_) trivial (h _ (hm.setObj hk))
  simp [execOp, resolve, invoke, builtin, hf.eval hx, h1]
  rfl
end
theorem fmB' (xs : List UInt8) : xs.flatMap encB = xs.map (fun x => Value.int .u8 x.toNat) := by
  induction xs with
  | nil => rfl
  | cons x r ih => rw [List.flatMap_cons, ih]; rfl
theorem upds_put' {xs ys : List UInt8} {o : Nat} (h : o + ys.length ≤ xs.length) : upds (xs.flatMap encB) (o * 1) (ys.flatMap encB) = (Pl.put xs o ys).flatMap encB := by
  rw [fmB', fmB', fmB', Nat.mul_one, upds_eq _ _ _ (by simpa using h)]
  unfold Pl.put
  simp only [List.map_append, List.map_take, List.map_drop, List.length_map]
/-! ### Devices -/
/-- a write in the cache: its sector, its bytes -/
structure PdV where
  i : Nat
  d : SB
def encP (x : PdV) : List Value := [.int .i64 (x.i : Int), .slice x.d.p x.d.bs.length x.d.cap]
theorem encP_len (x : PdV) : (encP x).length = 2 := rfl
def PdV.wr (x : PdV) : Pl.Wr := (x.i, x.d.bs)
def dvV (D : Pl.Dv) (pb : Option Addr) (cb : Nat) (pc : Option Addr) (cc gm : Nat) : List Value :=
  [.int .i64 (D.sz : Int), .slice pb D.dk.length cb, .int .i64 D.wr, .int .u64 D.kp, .int .i64 D.sW, .int .i64 D.sF, .int .i64 D.sC, .int .i64 D.sH, .int .i64 D.sM, .slice pc D.ca.length cc, .map (some gm), .bool D.dn]
/-- the blocks of a device of the program's -/
structure DvZ (TD TP U8 : Nat) (D : Pl.Dv) (m : Nat) (pb : Option Addr) (cb gb : Nat) (bb : Blk) (pc : Option Addr) (cc gc : Nat) (bc : Blk) (gm : Nat) (es : List (Int × Int × Nat)) (cs : List PdV) (B : List (Nat × Blk)) : Prop where
  ab : Acc U8 1 pb D.dk.length cb (D.dk.flatMap encB) gb bb
  ac : Acc TP 2 pc D.ca.length cc (cs.flatMap encP) gc bc
  cw : cs.map PdV.wr = D.ca
  hd : ∀ c ∈ cs, Held B U8 c.d
  mp : ∀ k, mpLook es k = Pl.lastIx D.ca k
  ok : Pl.okDv D
def DevZ (TD TP U8 : Nat) (D : Pl.Dv) (m : Nat) (Z : List (Nat × Blk)) : Prop :=
  ∃ pb cb gb bb pc cc gc bc gm es ck cs B, Z = (m, .row TD (dvV D pb cb pc cc gm)) :: (gb, bb) :: (gc, bc) :: (gm, mpB es ck) :: B ∧ DvZ TD TP U8 D m pb cb gb bb pc cc gc bc gm es cs B
theorem DevZ.ok {TD TP U8 : Nat} {D : Pl.Dv} {m : Nat} {Z : List (Nat × Blk)} (h : DevZ TD TP U8 D m Z) : Pl.okDv D := by
  obtain ⟨pb, cb, gb, bb, pc, cc, gc, bc, gm, es, ck, cs, B, _, h⟩ := h
  exact h.ok
def rfV (D : Pl.Dv) (pb : Option Addr) (cb : Nat) (pc : Option Addr) (cc : Nat) : List Value :=
  [.int .i64 (D.sz : Int), .int .i64 (D.cnt : Int), .slice pb D.dk.length cb, .slice pc D.ca.length cc, .int .i64 D.wr, .int .u64 D.kp, .bool D.dn, .int .i64 D.sW, .int .i64 D.sF, .int .i64 D.sC, .int .i64 D.sH, .int .i64 D.sM]
/-- a list of writes that some blocks hold -/
def HeldP (B : List (Nat × Blk)) (TP U8 : Nat) (p : Option Addr) (cap : Nat) (cs : List PdV) : Prop := (∃ g b, (g, b) ∈ B ∧ Acc TP 2 p cs.length cap (cs.flatMap encP) g b) ∧ ∀ c ∈ cs, Held B U8 c.d
/-- the blocks of a device of the reference's -/
def RefZ (TD TP U8 : Nat) (D : Pl.Dv) (m : Nat) (Z : List (Nat × Blk)) : Prop :=
  ∃ pb cb pc cc cs B, Z = (m, .row TD (rfV D pb cb pc cc)) :: B ∧ Held B U8 ⟨pb, cb, D.dk⟩ ∧ HeldP B TP U8 pc cc cs ∧ cs.map PdV.wr = D.ca ∧ Pl.okDv D
theorem wr_get {cs : List PdV} {l : List Pl.Wr} {k : Nat} {c : PdV} (h : cs.map PdV.wr = l) (hc : cs[k]? = some c) : l[k]? = some (c.i, c.d.bs) := by
  rw [← h, List.getElem?_map, hc]; rfl
theorem wr_len {cs : List PdV} {l : List Pl.Wr} (h : cs.map PdV.wr = l) : cs.length = l.length := by rw [← h, List.length_map]
theorem mulN {a b : Nat} (h : a * b ≤ 9223372036854775807) : IntKind.i64.wrap ((a : Int) * (b : Int)) = ((a * b : Nat) : Int) := by
  have e : (a : Int) * (b : Int) = ((a * b : Nat) : Int) := by norm_cast
  rw [e]
  exact i64w (by omega) (by omega)
theorem addN {a : Nat} (h : a ≤ 4611686018427387903) : IntKind.i64.wrap ((a : Int) + 1) = ((a + 1 : Nat) : Int) := i64w (by omega) (by omega)
theorem cnt_div {D : Pl.Dv} (h : Pl.okDv D) : IntKind.i64.wrap ((D.dk.length : Int).tdiv (D.sz : Int)) = (D.cnt : Int) := by
  have h1 := h.sz
  have h2 := h.max
  have hcz : D.cnt ≤ D.cnt * D.sz := Nat.le_mul_of_pos_right _ h1
  have e : (D.dk.length : Int).tdiv (D.sz : Int) = (D.cnt : Int) := by
    rw [h.len, Int.tdiv_eq_ediv_of_nonneg (by omega)]
    have : ((D.cnt * D.sz : Nat) : Int) = (D.cnt : Int) * (D.sz : Int) := by norm_cast
    rw [this]
    exact Int.mul_ediv_cancel _ (by omega)
  rw [e]
  exact i64w (by omega) (by omega)
theorem code0 {D : Pl.Dv} {i : Int} (h : Pl.codeAt D i = 0) : D.dn = false ∧ 0 ≤ i ∧ i < D.cnt := by
  unfold Pl.codeAt at h
  split at h
  · cases h
  · rename_i h1
    split at h
    · cases h
    · exact ⟨by simpa using h1, by omega⟩
theorem Mem.notin {w0 w : World} {X : Bs} {Z : List (Nat × Blk)} {m : Nat} {b : Blk} (h : Mem w0 w X (Z ++ [(m, b)])) (hb : b.real = true := by rfl) : ¬ Mn (reals Z) m := fun hm => by
  have hn := h.nodup
  rw [reals_app, reals_cons, if_pos hb] at hn
  exact (List.nodup_append.1 hn).2.2 m hm m (by simp) rfl
theorem DvZ.dev {TD TP U8 : Nat} {D : Pl.Dv} {m : Nat} {pb : Option Addr} {cb gb : Nat} {bb : Blk} {pc : Option Addr} {cc gc : Nat} {bc : Blk} {gm : Nat} {es : List (Int × Int × Nat)} {cs : List PdV} {B : List (Nat × Blk)} (ck : Nat) (h : DvZ TD TP U8 D m pb cb gb bb pc cc gc bc gm es cs B) :
    DevZ TD TP U8 D m ((m, .row TD (dvV D pb cb pc cc gm)) :: (gb, bb) :: (gc, bc) :: (gm, mpB es ck) :: B) := ⟨pb, cb, gb, bb, pc, cc, gc, bc, gm, es, ck, cs, B, rfl, h⟩
theorem DvZ.add {TD TP U8 : Nat} {D : Pl.Dv} {m : Nat} {pb : Option Addr} {cb gb : Nat} {bb : Blk} {pc pc2 : Option Addr} {cc cc2 gc gc2 : Nat} {bc bc2 : Blk} {gm : Nat} {es : List (Int × Int × Nat)} {cs : List PdV} {B : List (Nat × Blk)} (ck : Nat) {i : Int} {bs : List UInt8} {ps : Option Addr} {cps gs : Nat} {b : Blk} (h : DvZ TD TP U8 D m pb cb gb bb pc cc gc bc gm es cs B)
    (hi : Pl.codeAt D i = 0) (hb : bs.length = D.sz) (hl : D.ca.length ≤ 1000000000) (ha : Acc TP 2 pc2 (D.ca.length + 1) cc2 (cs.flatMap encP ++ [.int .i64 i, .slice ps bs.length cps]) gc2 bc2) (hs : Acc U8 1 ps bs.length cps (bs.flatMap encB) gs b) :
    DvZ TD TP U8 (Pl.wAdd D i bs) m pb cb gb bb pc2 cc2 gc2 bc2 gm (mpSet es ck i D.ca.length) (cs ++ [⟨i.toNat, ⟨ps, cps, bs⟩⟩]) ((gs, b) :: B) := by
  obtain ⟨_, hi0, hi1⟩ := code0 hi
  have hin : ((i.toNat : Nat) : Int) = i := by omega
  refine ⟨h.ab, ?_, ?_, ?_, ?_, Pl.ok_add h.ok hi hb hl⟩
  · rw [List.flatMap_append, List.flatMap_singleton]
    show Acc TP 2 pc2 (D.ca ++ [(i.toNat, bs)]).length cc2 (cs.flatMap encP ++ [.int .i64 (i.toNat : Int), .slice ps bs.length cps]) gc2 bc2
    rw [hin, List.length_append]
    exact ha
  · rw [List.map_append, h.cw]; rfl
  · intro c hc
    rcases List.mem_append.1 hc with hc | hc
    · exact (h.hd c hc).mono fun e he => List.mem_cons_of_mem _ he
    · rw [List.mem_singleton.1 hc]; exact ⟨gs, b, List.mem_cons_self, hs⟩
  · intro k
    rw [mpLook_set]
    show _ = Pl.lastIx (D.ca ++ [(i.toNat, bs)]) k
    rw [Pl.lastIx_app, h.mp k]
    show _ = if k = (i.toNat : Int) then _ else _
    rw [hin]
theorem DvZ.as {TD TP U8 : Nat} {D D2 : Pl.Dv} {m : Nat} {pb : Option Addr} {cb gb : Nat} {bb : Blk} {pc : Option Addr} {cc gc : Nat} {bc : Blk} {gm : Nat} {es : List (Int × Int × Nat)} {cs : List PdV} {B : List (Nat × Blk)} (h : DvZ TD TP U8 D m pb cb gb bb pc cc gc bc gm es cs B)
    (h1 : D2.dk = D.dk) (h2 : D2.ca = D.ca) (ok : Pl.okDv D2) : DvZ TD TP U8 D2 m pb cb gb bb pc cc gc bc gm es cs B := ⟨by rw [h1]; exact h.ab, by rw [h2]; exact h.ac, by rw [h2]; exact h.cw, h.hd, by rw [h2]; exact h.mp, ok⟩
theorem decI {n : Int} (h1 : -9223372036854775807 ≤ n) (h2 : n ≤ 9223372036854775807) : IntKind.i64.wrap (n - 1) = n - 1 := i64w (by omega) (by omega)
theorem slp_z {g cap : Nat} (h : cap ≠ 0) : slp (some ⟨g, 0, none⟩) cap 0 1 = some ⟨g, 0, none⟩ := by unfold slp; rw [if_neg h]; rfl
theorem repB : ∀ n : Nat, repZ [.int .u8 0] n = (List.replicate n (0 : UInt8)).flatMap encB
  | 0 => rfl
  | n + 1 => by
    rw [List.replicate_succ, List.flatMap_cons, ← repB n]
    rfl
theorem divC {y : Int} (h : 1 ≤ y) : IntKind.i64.wrap ((1048576 : Int).tdiv y) = 1048576 / y := by
  rw [Int.tdiv_eq_ediv_of_nonneg (by omega)]
  have h1 : 0 ≤ (1048576 : Int) / y := Int.ediv_nonneg (by omega) (by omega)
  have h2 : (1048576 : Int) / y ≤ 1048576 := Int.ediv_le_self _ (by omega)
  exact i64w (by omega) (by omega)
theorem divT {x y : Int} (h : 1 ≤ y) (hx : 1048576 < x * y) : 1048576 / y < x := (Int.ediv_lt_iff_lt_mul (by omega)).2 hx
theorem divF {x y : Int} (h : 1 ≤ y) (hx : x * y ≤ 1048576) : x ≤ 1048576 / y := (Int.le_ediv_iff_mul_le (by omega)).2 hx
theorem right4 (x y n : Int) : (x < 1 ∨ y < 1) ∨ (1 ≤ x ∧ 1 ≤ y ∧ 1048576 < x * y) ∨ (1 ≤ x ∧ 1 ≤ y ∧ x * y ≤ 1048576 ∧ x * y < n) ∨ (1 ≤ x ∧ 1 ≤ y ∧ x * y ≤ 1048576 ∧ n ≤ x * y) := by omega
theorem OwnZ.tail {w : World} {x : Nat × Blk} {B : List (Nat × Blk)} (h : OwnZ w (x :: B)) : OwnZ w B := OwnZ.right (A := [x]) h
theorem Mem.callZ1 {w0 w w' : World} {X : Bs} {x : Nat × Blk} {Z Z' : List (Nat × Blk)} (h : Mem w0 w X (x :: Z)) (hc : Mem w w' (Mn (reals Z)) Z') : Mem w0 w' X (x :: Z') := Mem.callZL (A := [x]) h hc
theorem blk_app {A Z : List (Nat × Blk)} : ∀ {k : Nat} {p : Nat × Blk}, blk A k = some p → p ∈ A := fun h => blk_mem h
theorem Mem.notT {w0 w : World} {X : Bs} {A Z : List (Nat × Blk)} {n k : Nat} {b : Blk} (h : Mem w0 w X (A ++ Z)) (hk : blk A k = some (n, b)) (hb : b.real = true := by rfl) : ¬ Mn (reals Z) n := fun hm => by
  have hn := h.nodup
  rw [reals_app] at hn
  exact (List.nodup_append.1 hn).2.2 n (mem_reals.2 ⟨b, blk_mem hk, hb⟩) n hm rfl
theorem Mem.callTZ {w0 w w' : World} {X : Bs} {L Z : List (Nat × Blk)} (h : Mem w0 w X L) (hc : Mem w w' No Z) : Mem w0 w' X (L ++ Z) := (h.callN hc).perm List.perm_append_comm
/-- a call that turns the second of two devices -/
theorem Mem.callR {w0 w w' : World} {X : Bs} {A Z1 Z2 Z' : List (Nat × Blk)} (h : Mem w0 w X (A ++ (Z1 ++ Z2))) (hc : Mem w w' (Mn (reals Z2)) Z') : Mem w0 w' X (A ++ (Z1 ++ Z')) := by
  rw [← List.append_assoc] at h ⊢
  exact h.callZL hc
theorem OwnZ.mid {w : World} {A Z1 Z2 : List (Nat × Blk)} (h : OwnZ w (A ++ (Z1 ++ Z2))) : OwnZ w Z1 := (OwnZ.right (A := A) h).left
theorem OwnZ.end {w : World} {A Z1 Z2 : List (Nat × Blk)} (h : OwnZ w (A ++ (Z1 ++ Z2))) : OwnZ w Z2 := (OwnZ.right (A := A) h).right
theorem Rd.dropV {w : World} {p : Option Addr} {xs : List UInt8} {cap l : Nat} (h : Rd w p (xs.flatMap encB)) (hcap : xs.length ≤ cap) : Rd w (Cx.slp p cap l 1) ((xs.drop l).flatMap encB) := by
  have := h.sub (l := l) (m := xs.length) hcap
  rwa [List.take_of_length_le (by rw [List.length_drop]; omega)] at this
theorem Rd.takeV {w : World} {p : Option Addr} {xs : List UInt8} {cap m : Nat} (h : Rd w p (xs.flatMap encB)) (hcap : xs.length ≤ cap) : Rd w (Cx.slp p cap 0 1) ((xs.take m).flatMap encB) := by
  have := h.sub (l := 0) (m := m) hcap
  rwa [List.drop_zero] at this
theorem prodW {x y : Int} (h : 1 ≤ x ∧ 1 ≤ y ∧ x ≤ 1048576 ∧ y ≤ 1048576) : IntKind.i64.wrap (x * y) = x * y := by
  have h1 : x * y ≤ 1048576 * 1048576 := Int.mul_le_mul h.2.2.1 h.2.2.2 (by omega) (by omega)
  have h2 : 0 ≤ x * y := Int.mul_nonneg (by omega) (by omega)
  exact i64w (by omega) (by omega)
theorem right_b (x y n : Int) : (decide (1 ≤ x) && decide (1 ≤ y) && decide (x ≤ 1048576) && decide (y ≤ 1048576) && decide (x * y ≤ 1048576) && decide (n ≤ x * y)) = Pl.right x y n := by
  unfold Pl.right
  rw [Bool.eq_iff_iff]
  simp only [Bool.and_eq_true, decide_eq_true_eq]
  constructor
  · rintro ⟨⟨⟨⟨⟨h1, h2⟩, _⟩, _⟩, h3⟩, h4⟩; exact ⟨h1, h2, h3, h4⟩
  · rintro ⟨h1, h2, h3, h4⟩
    have h5 : x * 1 ≤ x * y := Int.mul_le_mul_of_nonneg_left h2 (by omega)
    have h6 : 1 * y ≤ x * y := Int.mul_le_mul_of_nonneg_right h1 (by omega)
    exact ⟨⟨⟨⟨⟨h1, h2⟩, by omega⟩, by omega⟩, h3⟩, h4⟩
end Go.Cx
