/-
  InterpNothing answers true for every input, and each argument reads as it did. No conditions.
-/
import Derived.Test.YtkjdgdkkepmciaaGreatRows
import Derived.Test.YtkjdgdkkepmciaaGreatCmH
import Derived.Test.YtkjdgdkkepmciaaGreatCmN
import Derived.WalkKit
import Derived.ProofKit
import Derived.OpenShut
import Derived.ShutString
import Derived.ChangeOld
import Derived.Below
import Derived.SizedLaws
import Derived.Carry
namespace Go.Proofs.YtkjdgdkkepmciaaGreat.interpNothing
open Go.ChangeShapes Go.WideShapes Go.ChangeAt Go.WideElems Go.RowKit
open Go.ChangeMaps (open_string shut_string)
theorem own : ownKnob Tryz.prog.godebug = none := by kernel_rfl
theorem walk (W : World) (a0 : Int) (_w0 : (Lit.int .i64 a0).wf = true) : Calls Tryz.prog 3 #[.int .i64 a0] W fun e W' => e = .returned (.bool true) ∧ Below W.heap.size W W' := by
  obtain ⟨h', e⟩ := Cm.nothing_run a0
  exact Cm.law_walk (Cm.callF_ok Cm.tg_ok 6000) (Cm.Inv.start (w := W) (glb := Cm.glb) (Nat.zero_le _) (fun _ _ => trivial)) (.cons _ _ _ _ (.int _ _) .nil) e
set_option maxRecDepth 100000 in
theorem lifted (os : Os) (started : os.Started) (H : Type) (enc : TypeId × Value → H) :
    ReturnsInHanded {} Tryz.checked os 3 .any (Rows.interpNothingSpec.pre6 enc Tryz.prog Tryz.f3 Rows.interpNothingRow.domain false) (Rows.interpNothingSpec.post enc Tryz.prog Tryz.f3 false true false false) := by
  refine returnsInHanded_of_change_sized (C := Tryz.checked) own started (by kernel_rfl) Tryz.func3
    (ChangeSpec.witness6 (enc := enc) (C := Tryz.checked) false ⟨#[], #[.int .i64 0], []⟩ 8 (by kernel_rfl) (by kernel_rfl) (by kernel_rfl) (by kernel_rfl)) ?_
  intro W base args ds gs before hval0 hW hcnd hsz0 _
  have hval : ∀ (j : Nat) t v, Tryz.f3.params[j]? = some t → args[j]? = some v → Value.okWide Tryz.prog W .any base t v := hval0
  have hW' := hW
  obtain ⟨p, q, hA0, hV, rfl, hfz, hnd⟩ := hW
  have hA : DataW.TrodAll enc Tryz.prog W 0 (fun _ => true) true Tryz.f3.params.toList args.toList ds p := hA0
  rw [Tryz.params3] at hA hval
  obtain ⟨v0, vs0, d0, ds0, p0, q0, hargs, rfl, rfl, h0, r0⟩ := trodAll_cons hA
  obtain ⟨rfl, rfl, rfl⟩ := trodAll_nil r0
  obtain rfl : args = #[v0] := by cases args; simp_all
  obtain ⟨rfl, rfl⟩ := trodVars_none hV
  obtain ⟨a0, rfl, rfl, rfl, w0⟩ := open_int Tryz.underlying3 (hval 0 3 v0 rfl rfl) h0
  clear hA0 hval0 hsz0
  refine (walk W a0 w0).mono fun e W' ⟨he, bel⟩ => ?_
  subst he
  exact ⟨_, rfl, _, _, _, [], _, [], hW', trodAll_mk1 (shut_bool Tryz.underlying4 _), (trodAll_cons_mk (shut_int Tryz.underlying3 w0) trodAll_mk0), rfl, bel.frame _, fun h => by cases h⟩
theorem andT {a b : Bool} (h : a = true) (k : b = true) : (a && b) = true := by rw [h, k]; rfl
set_option maxHeartbeats 100000000 in
theorem closed : joinedFacts Tryz.checked.prog 3 Tryz.f3 Rows.interpNothingSpec Rows.interpNothingRow = true := by
  unfold joinedFacts
  repeat' with_reducible refine andT ?_ ?_
  all_goals as_aux_lemma => kernel_rfl
set_option maxHeartbeats 100000000 in
theorem over : Rows.interpNothingRow.holds Tryz.pinned (OpenSpec.ofChange Rows.interpNothingSpec) :=
  OpenClaim.holds_of_wide 3 Tryz.f3 rfl rfl rfl rfl rfl rfl rfl ⟨rfl, rfl, rfl, rfl, rfl⟩ rfl rfl rfl rfl rfl (by as_aux_lemma => kernel_rfl) Tryz.func3 closed
    (of_decide_eq_true (by as_aux_lemma => kernel_rfl)) (by unfold Func.isWrapper; first | (rw [if_pos (by decide +kernel)]; kernel_rfl) | (rw [if_neg (by decide +kernel)]; exact ⟨rfl, rfl⟩))
    (fun os started H enc _ => lifted os started H enc)
theorem proved : Rows.InterpNothingSaid := over
end Go.Proofs.YtkjdgdkkepmciaaGreat.interpNothing
namespace Go.Proofs.YtkjdgdkkepmciaaGreat
/-- The row, under a short name, for the claim. -/
theorem interpNothing_holds : Rows.InterpNothingSaid := interpNothing.proved
#print axioms interpNothing_holds
end Go.Proofs.YtkjdgdkkepmciaaGreat

