/- Openers of a law's arguments: cases (a file, a delta, three numbers); a row at a world whose one global is some integer. No condition. -/
import Derived.Test.YtaehgpeenaomcaaGreatRowD
import Derived.Test.YtaehgpeenaomcaaGreatRgtB
import Derived.Test.YtaehgpeenaomcaaGreatEwP
namespace Go.Row
set_option linter.unusedVariables false
set_option linter.unusedSimpArgs false
open Go Go.Cx Go.ChangeShapes Go.WideShapes Go.RowKit Go.Proofs.YtaehgpeenaomcaaGreat
section
variable {H : Type} {enc : TypeId × Value → H} {P : Program} {W : World} {base : Nat} {held : Bool}
theorem trod_dl {t : TypeId} (h : dlS P t = true) {n9 : Nat} {l : List Value} {y : DataW H × List MemPlace} (hd : DataW.trod enc P W base (fun _ => true) held n9 t l = some y) :
    ∃ (o n : Int) (B : Nat → UInt8) (q : Option Addr) (cap : Nat) (xs : List CmdV), l = dlV o n B q xs.length cap ∧ Pl.I64 o ∧ Pl.I64 n ∧ Rd W q (xs.flatMap encC) ∧ (∀ x, x ∈ xs → okC W x) ∧ xs.length ≤ cap ∧ cap ≤ 9223372036854775807 := by
  unfold dlS at h
  split at h
  · rename_i fs hu
    split at h
    · rename_i f0 f1 f2 f3 f4 hfs
      simp only [Bool.and_eq_true, beq_iff_eq] at h
      obtain ⟨⟨⟨⟨⟨⟨⟨⟨⟨⟨⟨⟨⟨⟨⟨o0, o1⟩, o2⟩, o3⟩, o4⟩, c0⟩, c1⟩, c2⟩, c3⟩, c4⟩, ct⟩, t0⟩, t1⟩, t2⟩, t3⟩, t4⟩ := h
      obtain ⟨ys, m', rfl, _, hl, hyl, hi⟩ := DataW.trod_struct hu hd
      have hsz : fs.size = 5 := by rw [← Array.length_toList, hfs]; rfl
      rw [ct] at hl
      change l.length = 67 at hl
      have hg : ∀ (i : Nat) f, [f0, f1, f2, f3, f4][i]? = some f → fs[i]? = some f := fun i f hf => by rw [← Array.getElem?_toList, hfs]; exact hf
      have hy : ∀ i, i < 5 → ∃ y, ys[i]? = some y := fun i h5 => ⟨_, List.getElem?_eq_getElem (by omega)⟩
      obtain ⟨y0, g0⟩ := hy 0 (by omega)
      obtain ⟨y1, g1⟩ := hy 1 (by omega)
      obtain ⟨y2, g2⟩ := hy 2 (by omega)
      obtain ⟨y3, g3⟩ := hy 3 (by omega)
      obtain ⟨y4, g4⟩ := hy 4 (by omega)
      have h0 := hi 0 f0 (hg 0 f0 rfl)
      have h1 := hi 1 f1 (hg 1 f1 rfl)
      have h2 := hi 2 f2 (hg 2 f2 rfl)
      have h3 := hi 3 f3 (hg 3 f3 rfl)
      have h4 := hi 4 f4 (hg 4 f4 rfl)
      rw [o0, c0, g0] at h0
      rw [o1, c1, g1] at h1
      rw [o2, c2, g2] at h2
      rw [o3, c3, g3] at h3
      rw [o4, c4, g4] at h4
      have e0 := cutN l 0 1
      have e1 := cutN l 1 1
      have e2 := cutN l 2 32
      have e3 := cutN l 34 32
      have e4 := cutN l 66 1
      have e5 : l.drop 67 = [] := List.drop_eq_nil_of_le (by omega)
      rw [cut1 (by omega)] at h0 h1 h4 e0 e1 e4
      obtain ⟨x0, k0, w0, _⟩ := trod_i t0 h0
      obtain ⟨x1, k1, w1, _⟩ := trod_i t1 h1
      obtain ⟨b2, k2, n2⟩ := trod_ab t2 h2
      obtain ⟨b3, k3, n3⟩ := trod_ab t3 h3
      unfold slC at t4
      split at t4
      · rename_i e hu4
        simp only [Bool.and_eq_true, beq_iff_eq] at t4
        obtain ⟨q, cap, xs, k4, hR, hok, hlc, hcc, _⟩ := trod_slS encC (Q := okC W) hu4 t4.1 (fun n cs y hl hx => trod_cmd t4.2 hx) h4
        have hL : l = dlV x0 x1 (fun i => if i < 32 then b2.getD i 0 else b3.getD (i - 32) 0) q xs.length cap := by
          have e6 : l = l.drop 0 := rfl
          rw [e6, e0, e1, e2, e3, e4, e5, k0, k1, k2, k3, k4, b32 n2, b32 n3]
          rfl
        subst hL
        exact ⟨x0, x1, _, q, cap, xs, rfl, wf_i64 w0, wf_i64 w1, hR, hok, hlc, hcc⟩
      · cases t4
    · cases h
  · cases h
def caS (P : Program) (t : TypeId) : Bool := match P.underlying t with
  | some (.struct fs) => match fs.toList with
    | [f0, f1, f2, f3, f4] => f0.offset == 0 && f1.offset == 1 && f2.offset == 68 && f3.offset == 69 && f4.offset == 70 && P.cellsOf f0.type == 1 && P.cellsOf f1.type == 67 && P.cellsOf f2.type == 1 && P.cellsOf f3.type == 1 && P.cellsOf f4.type == 1 && P.cellsOf t == 71 &&
      slI P f0.type .u8 && dlS P f1.type && intT P f2.type == some .i64 && intT P f3.type == some .i64 && intT P f4.type == some .i64
    | _ => false
  | _ => false
theorem open_ca {t : TypeId} {r : Reach} {b0 : Nat} {v : Value} {d : DataW H} {p : List MemPlace} (h : caS P t = true) (hv : Value.okWide P W r b0 t v) (hd : DataW.Trod enc P W base (fun _ => true) held t v d p) :
    ∃ (o n : Int) (B : Nat → UInt8) (q : Option Addr) (cap : Nat) (xs : List CmdV) (r : Option Addr) (cr : Nat) (f : List UInt8) (s b m : Int), v = .agg ⟨caV r f.length cr o n B q xs.length cap s b m⟩ ∧ Pl.I64 o ∧ Pl.I64 n ∧ Pl.I64 s ∧ Pl.I64 b ∧ Rd W q (xs.flatMap encC) ∧ (∀ x, x ∈ xs → okC W x) := by
  unfold caS at h
  split at h
  · rename_i fs hu
    split at h
    · rename_i f0 f1 f2 f3 f4 hfs
      simp only [Bool.and_eq_true, beq_iff_eq] at h
      obtain ⟨⟨⟨⟨⟨⟨⟨⟨⟨⟨⟨⟨⟨⟨⟨o0, o1⟩, o2⟩, o3⟩, o4⟩, c0⟩, c1⟩, c2⟩, c3⟩, c4⟩, ct⟩, t0⟩, t1⟩, t2⟩, t3⟩, t4⟩ := h
      obtain ⟨cs, rfl, _⟩ := okWide_struct hu hv
      obtain ⟨l⟩ := cs
      obtain ⟨m, hd⟩ := hd
      obtain ⟨ys, m', rfl, _, hl, hyl, hi⟩ := DataW.trod_struct hu hd
      have hsz : fs.size = 5 := by rw [← Array.length_toList, hfs]; rfl
      rw [ct] at hl
      change l.length = 71 at hl
      have hg : ∀ (i : Nat) f, [f0, f1, f2, f3, f4][i]? = some f → fs[i]? = some f := fun i f hf => by rw [← Array.getElem?_toList, hfs]; exact hf
      have hy : ∀ i, i < 5 → ∃ y, ys[i]? = some y := fun i h5 => ⟨_, List.getElem?_eq_getElem (by omega)⟩
      obtain ⟨y0, g0⟩ := hy 0 (by omega)
      obtain ⟨y1, g1⟩ := hy 1 (by omega)
      obtain ⟨y2, g2⟩ := hy 2 (by omega)
      obtain ⟨y3, g3⟩ := hy 3 (by omega)
      obtain ⟨y4, g4⟩ := hy 4 (by omega)
      have h0 := hi 0 f0 (hg 0 f0 rfl)
      have h1 := hi 1 f1 (hg 1 f1 rfl)
      have h2 := hi 2 f2 (hg 2 f2 rfl)
      have h3 := hi 3 f3 (hg 3 f3 rfl)
      have h4 := hi 4 f4 (hg 4 f4 rfl)
      rw [o0, c0, g0] at h0
      rw [o1, c1, g1] at h1
      rw [o2, c2, g2] at h2
      rw [o3, c3, g3] at h3
      rw [o4, c4, g4] at h4
      simp only [Value.cells] at h0 h1 h2 h3 h4
      have e0 := cutN l 0 1
      have e1 := cutN l 1 67
      have e2 := cutN l 68 1
      have e3 := cutN l 69 1
      have e4 := cutN l 70 1
      have e5 : l.drop 71 = [] := List.drop_eq_nil_of_le (by omega)
      rw [cut1 (by omega)] at h0 h2 h3 h4 e0 e2 e3 e4
      obtain ⟨s0, k0, _⟩ := trod_sb t0 h0
      obtain ⟨o, n, B, q, cap, xs, k1, w0, w1, hR, hok, hlc, hcc⟩ := trod_dl t1 h1
      obtain ⟨x2, k2, w2, _⟩ := trod_i t2 h2
      obtain ⟨x3, k3, w3, _⟩ := trod_i t3 h3
      obtain ⟨x4, k4, w4, _⟩ := trod_i t4 h4
      have hL : l = caV s0.p s0.bs.length s0.cap o n B q xs.length cap x2 x3 x4 := by
        have e6 : l = l.drop 0 := rfl
        rw [e6, e0, e1, e2, e3, e4, e5, k0, k1, k2, k3, k4]
        rfl
      subst hL
      exact ⟨o, n, B, q, cap, xs, s0.p, s0.cap, s0.bs, x2, x3, x4, rfl, w0, w1, wf_i64 w2, wf_i64 w3, hR, hok⟩
    · cases h
  · cases h
end
/-- a package variable that is one integer -/
theorem glob_of_shaped {P : Program} {w : World} {t : TypeId} {zero : Array Value} (h : w.ShapedOpen P) (hg : 0 < P.globals.size) (h0 : ((begin P (fun _ _ => 0) default).world.heap[0]?).bind Obj.row? = some (zero, t)) (hz : zero.size = 1)
    (hb : P.buildable t = true) (hc : P.cellTypes P.depth t = some [t]) (hu : P.underlying t = some (.int .i64)) : Go.Ev.GlobZ w := by
  obtain ⟨cs, hh, hs, hr⟩ := h.1 0 zero t hg h0
  obtain ⟨ts, hts, _, hall⟩ := hr hb
  rw [hc] at hts
  cases hts
  have h1 : 0 < cs.size := by omega
  obtain ⟨u, hu', hok⟩ := hall 0 cs[0] (by simp [h1])
  have : u = t := by simpa using hu'.symm
  subst this
  have hcs : cs = #[cs[0]] := by
    apply Array.ext
    · simp; omega
    · intro i hi hj
      have : i = 0 := by simp at hj; omega
      subst this
      rfl
  unfold Cell.ok at hok
  rw [hu] at hok
  cases hv : cs[0] with
  | int k z =>
    rw [hv] at hok
    have hk : k = .i64 := by
      simp at hok
      first | exact hok.1 | exact hok.1.symm
    subst hk
    exact ⟨z, u, (0, 0), by rw [hh, hcs, hv], fun j hj => by omega, Nat.le_refl _⟩
  | _ => rw [hv] at hok; simp at hok
section
variable {H : Type} {enc : TypeId × Value → H}
/-- a row by a contract, at worlds of the program's own shape -/
theorem returns_shaped {a : Assume} {C : Checked} {os : Os} {f : FuncId} {fn : Func} {s : ChangeSpec} {conds : List PathCond} {apart fresh handsOn again : Bool}
    (own : ownKnob C.prog.godebug = none) (started : os.Started) (noInit : C.prog.inits.idxOf? f = none) (hfn : C.prog.funcs[f]? = some fn)
    (witness : ∃ (w : World) (tape : Tape) (i : Input), w.os = os ∧ (w.forCall tape i).Shaped C.prog ∧ i.vars = [] ∧ Input.okWide C.prog (w.forCall tape i) .any w.heap.size f i ∧
      s.pre6 enc C.prog fn conds apart (w.forCall tape i).memory i.args ∧ a.holds C.prog (lone (Frame.enter C.prog f i.args .normal) [] (w.forCall tape i)))
    (contract : ∀ (W : World) (base : Nat) (args : Array Value) (ds gs : List (DataW H)) (before : List MemPlace), W.ShapedOpen C.prog →
      (∀ (j : Nat) t v, fn.params[j]? = some t → args[j]? = some v → Value.okWide C.prog W .any base t v) →
      DataW.Whole enc C.prog fn.params.toList s.vars apart W args.toList ds gs before →
      Calls C.prog f args W fun e W' => ∃ v, e = .returned v ∧ s.post enc C.prog fn apart fresh handsOn again W args v W') :
    ReturnsInHanded a C os f .any (s.pre6 enc C.prog fn conds apart) (s.post enc C.prog fn apart fresh handsOn again) := by
  refine returnsInHanded_of_calls own started noInit witness ?_
  intro w tape i _ hsh _ hok hpre hholds
  obtain ⟨_, _, _, fn', hfn', _, _, _, _, hval⟩ := hok
  have e : fn' = fn := Option.some.inj (hfn'.symm.trans hfn)
  subst e
  obtain ⟨⟨ds, gs, before, hw, hc⟩, hz⟩ := hpre
  have hw' := DataW.Whole.of_heap (w' := w.forCall tape i) (by rfl) hw
  refine (contract (w.forCall tape i) w.heap.size i.args ds gs before hsh hval hw').mono fun e W' ⟨v, he, hp⟩ => ?_
  subst he
  exact ChangeSpec.post_blind hp
end
end Go.Row
