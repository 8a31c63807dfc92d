/- A method called through an interface value whose dynamic type is known. No condition. -/
import Derived.Test.YtlgkhajmjgepaaaCxE
namespace Go.Cx
set_option linter.unusedVariables false
set_option linter.unusedSimpArgs false
open Go
/-- the method's function, if the row is the type's own and takes the value itself -/
def methF (P : Program) (t : TypeId) (name : String) : Option FuncId :=
  match P.info? t with
  | none => none
  | some i => match i.methods.find? (·.name == name) with
    | none => none
    | some m => match m.path.toList, m.func, P.underlying t with
      | [], some (f, false), some (.struct _) => some f
      | _, _, _ => none
section
variable {P : Program} {r : Option Nat} {k : Ks} {ops : Array Oper} {md : Md} {n : Nat} {D : List Deferred} {S : List (Nat × Value)} {w : World} {i d : Nat} {dst : Option Tmp} {ty : TypeId} {pos : String} {af : Array Edge} {g : Option (Nat × Bool)} {t : Tr}
theorem run_method {u : TypeId} {name : String} {f : FuncId} {v : Value} {fuel : Nat} (h : methF P u name = some f) : (method (fuel + 1) u v name).run P w = .ok (f, v) w := by
  unfold methF at h
  split at h
  · cases h
  rename_i ti hi
  split at h
  · cases h
  rename_i m hm
  split at h
  · rename_i hp hf hu
    simp only [Option.some.injEq] at h
    subst h
    unfold method
    simp [typeInfo, hi, hm, hp, hf, follow, receiverAt, run_und hu, Place.get]
  · cases h
theorem run_invoke {x : Operand} {name : String} {as : Array Operand} {ts : Array TypeId} {f : FuncId} {u : TypeId} {v : Value} {vs : List Value} {a : Act} (hf : Fr a n D S) (hx : ev S x = some (.iface u v)) (ha : evs S as.toList = some vs) (hm : methF P u name = some f) (hg : isGo P f = true) :
    (execOp a.eval ⟨dst, .call ⟨.invoke x name, as, ts⟩, ty, pos, af, g⟩).run P w = .ok (.enter f ⟨v :: vs⟩) w := by
  have h1 : as.map a.eval = ⟨vs⟩ := by obtain ⟨l⟩ := as; simpa using hf.evals ha
  obtain ⟨q, hq⟩ : ∃ q, P.types.size + Made.depth = q + 1 := ⟨P.types.size + Made.depth - 1, by have h9 : 0 < Made.depth := (by decide); omega⟩
  have h2 : (callMethod (.iface u v) name ⟨vs⟩).run P w = .ok (.enter f ⟨v :: vs⟩) w := by
    simp only [callMethod, Sem.run_bind, run_program, Result.andThen_ok]
    rw [hq, run_method hm]
    simp only [Result.andThen_ok]
    rw [run_isGo hg]
    simp
  simp [execOp, resolve, hf.eval hx, h1, invoke, h2]
theorem a_invoke {x : Operand} {name : String} {as : Array Operand} {ts : Array TypeId} {f : FuncId} {u : TypeId} {v0 : Value} {vs : List Value} {R : Value → World → Prop} (ho : opu ops S i = some (⟨dst, .call ⟨.invoke x name, as, ts⟩, ty, pos, af, g⟩, d)) (hd : Nat.blt d n = true)
    (hx : ev S x = some (.iface u v0)) (ha : evs S as.toList = some vs) (hm : methF P u name = some f) (hg : isGo P f = true) (hc : C P f (v0 :: vs) w R) (h : ∀ v w', R v w' → Hold md w' ∧ HR P r k ops md n D ((d, v) :: S) t w') : HR P r k ops md n D S (.act i t) w := fun a hf => by
  obtain ⟨h1, h2, h3⟩ := opu_spec ho hf
  refine ⟨_, h1, fun _ => ?_, fun hw => by rw [h2] at hw; cases hw⟩
  refine opW_enter (f := f) (args := ⟨v0 :: vs⟩) (R := R) rfl ?_ hc fun v w' hR => ⟨(h v w' hR).1, ?_⟩
  · exact run_invoke hf hx ha hm hg
  · rw [h3]
    exact (h v w' hR).2 _ (hf.put v hd)
def stT (P : Program) (t : TypeId) : Bool := match P.underlying t with
  | some (.struct _) => true
  | _ => false
theorem y_ifaceS {t : TypeId} {x : Operand} {v : Value} (hx : ev S x = some v) (h : stT P t = true) : ∀ a, Fr a n D S → Yl P md w a ⟨dst, .makeInterface t x, ty, pos, af, g⟩ (.iface t v) := by
  unfold stT at h
  split at h
  · rename_i hu
    exact y_iface hx hu rfl
  · cases h
end
end Go.Cx
