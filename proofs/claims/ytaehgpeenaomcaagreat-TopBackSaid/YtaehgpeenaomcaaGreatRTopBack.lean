/- The row of TopBack: whatever the input, the law returns true and the input reads as it did. No condition. -/
import Derived.Test.YtaehgpeenaomcaaGreatV15
import Derived.Test.YtaehgpeenaomcaaGreatJTopBack
import Derived.WalkKit
import Derived.ProofKit
import Derived.OpenShut
import Derived.JoinedCond
namespace Go.Proofs.YtaehgpeenaomcaaGreat.topBack
open Go Go.Cx Go.ChangeShapes Go.WideShapes Go.ChangeAt Go.RowKit
set_option linter.unusedVariables false
set_option linter.unusedSimpArgs false

theorem own : ownKnob Tryz.prog.godebug = none := by kernel_rfl
theorem laid : laidOutB Tryz.prog = true := by kernel_rfl

set_option maxHeartbeats 1600000 in
set_option maxRecDepth 100000 in
theorem contract (H : Type) (enc : TypeId × Value → H) (W : World) (base : Nat) (args : Array Value) (ds gs : List (DataW H)) (before : List MemPlace)
    (hsh : W.ShapedOpen Tryz.prog) (Sl : ∀ (j : Nat) t v, Tryz.f5.params[j]? = some t → args[j]? = some v → Value.okWide Tryz.prog W .any base t v)
    (hW : DataW.Whole enc Tryz.prog Tryz.f5.params.toList Rows.topBackSpec.vars false W args.toList ds gs before) :
    Calls Tryz.prog 5 args W fun e W' => ∃ v, e = .returned v ∧ Rows.topBackSpec.post enc Tryz.prog Tryz.f5 false true false false W args v W' := by
  have zc := hW
  obtain ⟨p, q, hA0, hV, hpq, hfz, hnd⟩ := hW
  have hA : DataW.TrodAll enc Tryz.prog W 0 (fun _ => true) true Tryz.f5.params.toList args.toList ds p := hA0
  rw [Tryz.params5] at hA Sl
  obtain ⟨v0, vs0, d0, ds0, p0_, q0_, RG, rfl, rfl, h0, r0⟩ := trodAll_cons hA
  obtain ⟨v1, vs1, d1, ds1, p1_, q1_, rfl, rfl, rfl, h1, r1⟩ := trodAll_cons r0
  obtain ⟨rfl, rfl, rfl⟩ := trodAll_nil r1
  obtain rfl : args = #[v0, v1] := by cases args; simp_all
  obtain ⟨rfl, rfl⟩ := trodVars_none hV
  obtain ⟨a0, b0, H0, p0, cap0, xs0, rr0, cr0, ff0, sz0, bd0, mo0, rfl, ha0, Mm, IU, FD, fN, hq0⟩ := Row.jaa (P := Tryz.prog) (by kernel_rfl) (Sl 0 28 v0 rfl rfl) h0
  obtain ⟨a1, rfl, fS⟩ := Row.jci (P := Tryz.prog) (by kernel_rfl : Row.Zm Tryz.prog 5 = some .u8) (Sl 1 5 v1 rfl rfl) h1
  have N5 := Row.wf_u8 fS
  have Bw := Row.Fp hsh (by decide +kernel) (by kernel_rfl : ((begin Tryz.prog (fun _ _ => 0) default).world.heap[0]?).bind Obj.row? = some (#[.int .i64 0], 3)) rfl (by kernel_rfl) (by kernel_rfl) (by kernel_rfl)
  refine Calls.mono (ZR a0 b0 H0 p0 cap0 xs0 rr0 cr0 ff0 sz0 bd0 mo0 W ha0 Mm IU FD fN hq0.1 hq0.2.1 hq0.2.2.1 hq0.2.2.2 a1 N5 Bw) fun e W' he => ?_
  obtain ⟨v, rfl, rfl, hx⟩ := he
  exact ⟨_, rfl, Row.Rj laid (by kernel_rfl) rfl (b := 4) (by kernel_rfl) (by kernel_rfl) zc rfl hx⟩

set_option maxRecDepth 100000 in
theorem lifted (os : Os) (started : os.Started) (H : Type) (enc : TypeId × Value → H) :
    ReturnsInHanded {} Tryz.checked os 5 .any (Rows.topBackSpec.pre6 enc Tryz.prog Tryz.f5 Rows.topBackRow.domain false) (Rows.topBackSpec.post enc Tryz.prog Tryz.f5 false true false false) := by
  refine Row.Fq (C := Tryz.checked) own started (by kernel_rfl) Tryz.func5 (ChangeSpec.witness6 (enc := enc) (C := Tryz.checked) false ⟨#[], #[.agg #[.slice none 0 0, .int .i64 0, .int .i64 0, .int .u8 0, .int .u8 0, .int .u8 0, .int .u8 0, .int .u8 0, .int .u8 0, .int .u8 0, .int .u8 0, .int .u8 0, .int .u8 0, .int .u8 0, .int .u8 0, .int .u8 0, .int .u8 0, .int .u8 0, .int .u8 0, .int .u8 0, .int .u8 0, .int .u8 0, .int .u8 0, .int .u8 0, .int .u8 0, .int .u8 0, .int .u8 0, .int .u8 0, .int .u8 0, .int .u8 0, .int .u8 0, .int .u8 0, .int .u8 0, .int .u8 0, .int .u8 0, .int .u8 0, .int .u8 0, .int .u8 0, .int .u8 0, .int .u8 0, .int .u8 0, .int .u8 0, .int .u8 0, .int .u8 0, .int .u8 0, .int .u8 0, .int .u8 0, .int .u8 0, .int .u8 0, .int .u8 0, .int .u8 0, .int .u8 0, .int .u8 0, .int .u8 0, .int .u8 0, .int .u8 0, .int .u8 0, .int .u8 0, .int .u8 0, .int .u8 0, .int .u8 0, .int .u8 0, .int .u8 0, .int .u8 0, .int .u8 0, .int .u8 0, .int .u8 0, .slice none 0 0, .int .i64 0, .int .i64 0, .int .i64 0], .int .u8 0], []⟩ 8 (by kernel_rfl) (by kernel_rfl) (by kernel_rfl) (by kernel_rfl)) ?_
  intro W base args ds gs before hsh Sl hW
  exact contract H enc W base args ds gs before hsh Sl hW

theorem over : Rows.topBackRow.holds Tryz.pinned (OpenSpec.ofChange Rows.topBackSpec) :=
  OpenClaim.holds_of_wide 5 Tryz.f5 rfl rfl rfl rfl rfl rfl rfl ⟨rfl, rfl, rfl, rfl, rfl⟩ rfl rfl rfl rfl rfl (by kernel_rfl) Tryz.func5 joined
    (of_decide_eq_true (by kernel_rfl)) (by unfold Func.isWrapper; first | (rw [if_pos (by decide +kernel)]; kernel_rfl) | (rw [if_neg (by decide +kernel)]; exact ⟨rfl, rfl⟩))
    (fun os started H enc _ => lifted os started H enc)

/-- The statement. -/
theorem proved : Rows.TopBackSaid :=
  over
end Go.Proofs.YtaehgpeenaomcaaGreat.topBack
