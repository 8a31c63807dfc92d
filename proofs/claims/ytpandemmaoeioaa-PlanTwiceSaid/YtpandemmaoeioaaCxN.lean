/- The program logic of these proofs, part N: ranges over functions within loops: the marks that they leave. No condition. -/
import Derived.Test.YtpandemmaoeioaaCxM
namespace Go.Cx
set_option linter.unusedVariables false
set_option linter.unusedSimpArgs false
open Go

/-- where a round goes on, the deferred calls turning with the state -/
def Ks.lpD {ι : Type} (k : Ks) (Sx : ι → List (Nat × Value)) (M : ι → World → Prop) (μ : ι → Nat) (Dx : ι → List Deferred) (x : ι) (n : Nat) : Ks := { k with norm := fun a w => ∃ y, μ y < μ x ∧ M y w ∧ Fr a n (Dx y) (Sx y) }
section
variable {P : Program} {r : Option Nat} {c : Code} {k : Ks} {n : Nat} {D : List Deferred} {S : List (Nat × Value)} {w : World}
theorem gr_lpD {ι : Type} {Sx : ι → List (Nat × Value)} {M : ι → World → Prop} {μ : ι → Nat} {Dx : ι → List Deferred} {x : ι} {m : Nat} (h : GR k n D S w) : GR (k.lpD Sx M μ Dx x m) n D S w := h
theorem gx_lpD {ι : Type} {Sx : ι → List (Nat × Value)} {M : ι → World → Prop} {μ : ι → Nat} {Dx : ι → List Deferred} {x : ι} {m i : Nat} (h : GX k i n D S w) : GX (k.lpD Sx M μ Dx x m) i n D S w := h
theorem HW_loopD {ι : Type} {b : Code} (hc : lopC c = some b) {ks : List Nat} {T : List (Nat × Value)} (hp : Pick S ks T) (Vx : ι → List (Nat × Value)) (M : ι → World → Prop) (μ : ι → Nat) (Dx : ι → List Deferred) (x0 : ι) (h0 : M x0 w) (hD : Dx x0 = D) (hS : Sub (Vx x0) S)
    (round : ∀ x w, M x w → HW P r (lopB c) (k.lpD (fun x => Vx x ++ T) M μ Dx x n) n (Dx x) (Vx x ++ T) w) : HW P r c k n D S w := fun a hf => by
  let Sx : ι → List (Nat × Value) := fun x => Vx x ++ T
  let Q : Act → World → Nat → Prop := fun a w m => ∃ x, μ x = m ∧ M x w ∧ Fr a n (Dx x) (Sx x)
  let ms : Act → World → Nat := fun a w => open Classical in if h : ∃ m, Q a w m then Classical.choose (least _ h) else 0
  refine W_loop hc (fun a w => ∃ x, M x w ∧ Fr a n (Dx x) (Sx x)) ms ⟨x0, h0, by rw [hD]; exact hf.sub (hS.app hp.sub).look⟩ ?_
  rintro a w ⟨x, hM, hF⟩
  have hex : ∃ m, Q a w m := ⟨μ x, x, rfl, hM, hF⟩
  have hms : ms a w = Classical.choose (least _ hex) := by simp only [ms]; rw [dif_pos hex]
  obtain ⟨⟨y, hy, hMy, hFy⟩, _⟩ := Classical.choose_spec (least _ hex)
  refine W_mono (round y w hMy a hFy) ?_ (fun _ _ h => h) (fun _ _ _ h => h)
  rintro a' w' ⟨z, hlt, hMz, hFz⟩
  refine ⟨⟨z, hMz, hFz⟩, ?_⟩
  have hex' : ∃ m, Q a' w' m := ⟨μ z, z, rfl, hMz, hFz⟩
  have hms' : ms a' w' = Classical.choose (least _ hex') := by simp only [ms]; rw [dif_pos hex']
  have hle := (Classical.choose_spec (least _ hex')).2 (μ z) ⟨z, rfl, hMz, hFz⟩
  rw [hms', hms]
  omega
theorem nextD {ι : Type} {Sx : ι → List (Nat × Value)} {M : ι → World → Prop} {μ : ι → Nat} {Dx : ι → List Deferred} {x : ι} (y : ι) (hμ : μ y < μ x) (hM : M y w) (hD : Dx y = D) (hS : Sub (Sx y) S) : GN (k.lpD Sx M μ Dx x n) n D S w :=
  fun _ hf => ⟨y, hμ, hM, by rw [hD]; exact hf.sub hS.look⟩
end
/-- without the blocks of deferred calls -/
def isDef : Blk → Bool | .obj (.deferred _) => true | _ => false
def noDef (L : List (Nat × Blk)) : List (Nat × Blk) := L.filter fun e => !isDef e.2
theorem noDef_sub (L : List (Nat × Blk)) : (noDef L).Sublist L := List.filter_sublist
theorem mem_noDef {L : List (Nat × Blk)} {g : Nat} {b : Blk} (h : (g, b) ∈ L) (hb : isDef b = false) : (g, b) ∈ noDef L := List.mem_filter.2 ⟨h, by simp [hb]⟩
theorem noDef_app (A B : List (Nat × Blk)) : noDef (A ++ B) = noDef A ++ noDef B := List.filter_append ..
theorem Held.noDef {B : List (Nat × Blk)} {u8 : Nat} {s : SB} (h : Held B u8 s) : Held (noDef B) u8 s := by
  obtain ⟨g, b, h1, h2⟩ := h
  refine ⟨g, b, mem_noDef h1 ?_, h2⟩
  rcases h2.cases' with ⟨_, _, h3⟩ | ⟨l, _, h3, _⟩ <;> rw [h3] <;> rfl
def endW : List Nat → World → World
  | [], w => w
  | r :: rs, w => endW rs { w with heap := w.heap.setIfInBounds r (.deferred none) }
section
variable {P : Program} {n : Nat} {S : List (Nat × Value)} {w w0 : World} {X : Bs} {L : List (Nat × Blk)}
theorem leaves_marks {fn : Func} {tmps : Array Value} {R : Ending → World → Prop} : ∀ (rs : List Nat) (w : World), (∀ r ∈ rs, w.heap[r]? = some (.deferred (some []))) → rs.Nodup → LeavesInM (Fw none) 0 P fn tmps R [] .returning (endW rs w) → LeavesInM (Fw none) 0 P fn tmps R (rs.map mark) .returning w
  | [], _, _, _, h => h
  | r :: rs, w, hin, hn, h => by
    rw [List.nodup_cons] at hn
    refine ⟨by simp, .inl ⟨r, _, rfl, run_take (hin r (by simp)), leaves_marks rs _ (fun s hs => ?_) hn.2 h⟩⟩
    have hne : r ≠ s := fun e => hn.1 (e ▸ hs)
    show (w.heap.setIfInBounds r (.deferred none))[s]? = _
    rw [Array.getElem?_setIfInBounds_ne hne]
    exact hin s (by simp [hs])
theorem Mem.endW : ∀ (rs : List Nat) (w : World), Mem w0 w X (noDef L) → (∀ r ∈ rs, (X r ∨ w0.heap.size ≤ r) ∧ ∀ p, p ∈ noDef L → p.2.real = true → p.1 ≠ r) → Mem w0 (Cx.endW rs w) X (noDef L)
  | [], _, h, _ => h
  | r :: rs, w, h, hr => by
    refine Mem.endW rs _ (h.turn (Y := fun k => k = r) ⟨rfl, rfl, rfl, by simp, fun k _ hk => ?_⟩ (fun k hk => hk ▸ (hr r (by simp)).1) fun p hp hre => (hr r (by simp)).2 p hp hre) fun s hs => hr s (by simp [hs])
    show (w.heap.setIfInBounds r (.deferred none))[k]? = _
    rw [Array.getElem?_setIfInBounds_ne (fun e => hk e.symm)]
/-- .. behind ranges, whatever their number -/
theorem finN {K : Act → World → Prop} {fn : Func} {R : Value → World → Prop} {rv : List ResultVar} {vs : List Value} {v : Value} {rs : List Nat} (hk : ∀ a w, FinM P fn R a w → K a w) (hr : fn.results.toList = rv) (hm : Mem w0 w X L) (hin : ∀ r ∈ rs, (r, dblk (some [])) ∈ L) (hn : rs.Nodup) (ht : Tup vs v) {L' : List (Nat × Blk)} (hL : noDef L = L')
    (h : ∀ w', Mem w0 w' X L' → Rs P w' S rv vs ∧ R v w') : GoD K n (rs.map mark) S w := fun a hf => by
  subst hL
  rw [← ht.eq] at h
  refine hk a w ?_
  unfold FinM
  rw [hf.defers]
  have hmn : Mem w0 w X (noDef L) := hm.drop (noDef_sub L)
  have hend := Mem.endW (L := L) rs w hmn fun r hr => ⟨hm.fresh _ (hin r hr) rfl, fun p hp hre e => by
    have h1 := List.mem_filter.1 hp
    have h2 := hm.own _ h1.1 hre
    have h3 := hm.own _ (hin r hr) rfl
    simp only at h3
    rw [e, h3] at h2
    have h4 := Option.some.inj h2
    cases hb : p.2 with
    | gap => rw [hb] at hre; cases hre
    | row t l => rw [hb] at h4; cases h4
    | obj o =>
      rw [hb] at h4
      have h5 := h1.2
      rw [hb] at h5
      have h6 : o = .deferred (some []) := h4.symm
      subst h6
      simp [isDef] at h5⟩
  refine leaves_marks rs w (fun r hr => hm.own _ (hin r hr) rfl) hn ?_
  obtain ⟨h1, h2⟩ := h _ hend
  exact ⟨_, h1.results hr hf, _, rfl, h2⟩
end
theorem Mem.headNe {w0 w : World} {X : Bs} {L : List (Nat × Blk)} {r s : Nat} {b c : Blk} (h : Mem w0 w X ((r, b) :: L)) (hs : (s, c) ∈ L) (hb : b.real = true := by rfl) (hc : c.real = true := by rfl) : r ≠ s := fun e => by
  have hn := h.nodup
  rw [reals_cons, if_pos hb, List.nodup_cons] at hn
  exact hn.1 (mem_reals.2 ⟨c, by simp only; rw [e]; exact hs, hc⟩)
theorem marksAdd {T : List (Nat × Blk)} {rs : List Nat} {r : Nat} (h : ∀ s ∈ rs, (s, dblk (some [])) ∈ T) : ∀ s ∈ r :: rs, (s, dblk (some [])) ∈ T ++ [(r, dblk (some []))] := fun s hs => by
  rcases List.mem_cons.1 hs with rfl | hs
  · simp
  · exact List.mem_append_left _ (h s hs)
theorem noDef_cons {g : Nat} {b : Blk} {L : List (Nat × Blk)} (h : isDef b = false) : noDef ((g, b) :: L) = (g, b) :: noDef L := by simp [noDef, h]
theorem Acc.nd {e es n cap g : Nat} {b : Blk} {p : Option Addr} {cells : List Value} (h : Acc e es p n cap cells g b) : isDef b = false := by
  rcases h.cases' with ⟨_, _, h3⟩ | ⟨l, _, h3, _⟩ <;> rw [h3] <;> rfl
end Go.Cx
