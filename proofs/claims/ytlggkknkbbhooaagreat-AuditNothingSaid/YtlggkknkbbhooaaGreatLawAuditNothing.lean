/-
  AuditNothing answers true for every input, and each argument reads as it did. No conditions.
-/
import Derived.Test.YtlggkknkbbhooaaGreatRows
import Derived.Test.YtlggkknkbbhooaaGreatCmUD
import Derived.Test.YtlggkknkbbhooaaGreatCmE
import Derived.WalkKit
import Derived.ProofKit
import Derived.OpenShut
import Derived.ShutString
import Derived.ChangeOld
import Derived.Below
import Derived.SizedLaws
import Derived.Carry
namespace Go.Proofs.YtlggkknkbbhooaaGreat.auditNothing
open Go.ChangeShapes Go.WideShapes Go.ChangeAt Go.WideElems Go.RowKit
open Go.ChangeMaps (open_string shut_string)
theorem own : ownKnob Tryz.prog.godebug = none := by kernel_rfl
theorem laidOut : laidOutB Tryz.prog = true := by kernel_rfl
theorem walk (W : World) (a0 : Option Addr) (l0 c0 : Nat) (z0 : List Int) (r0 : Cm.IsRow .i64 W a0 l0 c0 z0) (a1 : Bool) : Calls Tryz.prog 4 #[.slice a0 l0 c0, .bool a1] W fun e W' => e = .returned (.bool true) ∧ Below W.heap.size W W' := by
  obtain ⟨ι0, h0, v0, le0, H0, x0, ro0, q0, s0⟩ := Cm.open_arg (Cm.Inv.start (w := W) (glb := Cm.glb) (Nat.zero_le _) (fun _ _ => trivial)) (Cm.ro_empty _) (fun _ h => h) r0
  obtain ⟨fuel, v, h', e, hv⟩ := Cm.anothing_cal (b := a1) s0.rin.1
  subst hv
  exact Cm.law_walk (Cm.callF_ok Cm.tt_ok fuel) H0 (.cons _ _ _ _ q0 (.cons _ _ _ _ (.bool _) .nil)) e
set_option maxRecDepth 100000 in
theorem lifted (os : Os) (started : os.Started) (H : Type) (enc : TypeId × Value → H) :
    ReturnsInHanded {} Tryz.checked os 4 .any (Rows.auditNothingSpec.pre6 enc Tryz.prog Tryz.f4 Rows.auditNothingRow.domain false) (Rows.auditNothingSpec.post enc Tryz.prog Tryz.f4 false true false false) := by
  refine returnsInHanded_of_change_sized (C := Tryz.checked) own started (by kernel_rfl) Tryz.func4
    (ChangeSpec.witness6 (enc := enc) (C := Tryz.checked) false ⟨#[], #[.slice none 0 0, .bool false], []⟩ 8 (by kernel_rfl) (by kernel_rfl) (by kernel_rfl) (by kernel_rfl)) ?_
  intro W base args ds gs before hval0 hW hcnd hsz0 _
  have hval : ∀ (j : Nat) t v, Tryz.f4.params[j]? = some t → args[j]? = some v → Value.okWide Tryz.prog W .any base t v := hval0
  have hW' := hW
  obtain ⟨p, q, hA0, hV, rfl, hfz, hnd⟩ := hW
  have hA : DataW.TrodAll enc Tryz.prog W 0 (fun _ => true) true Tryz.f4.params.toList args.toList ds p := hA0
  rw [Tryz.params4] at hA hval
  obtain ⟨v0, vs0, d0, ds0, p0, q0, hargs, rfl, rfl, h0, r0⟩ := trodAll_cons hA
  obtain ⟨v1, vs1, d1, ds1, p1, q1, rfl, rfl, rfl, h1, r1⟩ := trodAll_cons r0
  obtain ⟨rfl, rfl, rfl⟩ := trodAll_nil r1
  obtain rfl : args = #[v0, v1] := by cases args; simp_all
  obtain ⟨rfl, rfl⟩ := trodVars_none hV
  obtain ⟨a0, l0, c0, z0, rfl, e0⟩ := Cm.row_in Tryz.underlying25 Tryz.underlying3 (by kernel_rfl) (hval 0 25 v0 rfl rfl) h0
  have k0 := h0
  have lt0 : ∀ x ∈ p0, x.block < W.heap.size := by obtain ⟨m, hm⟩ := k0; exact DataW.trod_lt m _ _ _ hm
  obtain ⟨a1, rfl, rfl, rfl⟩ := open_bool Tryz.underlying4 (hval 1 4 v1 rfl rfl) h1
  clear hA0 hval0 hsz0
  refine (walk W a0 l0 c0 z0 e0 a1).mono fun e W' ⟨he, bel⟩ => ?_
  subst he
  exact ⟨_, rfl, _, _, _, [], _, [], hW', trodAll_mk1 (shut_bool Tryz.underlying4 _), (trodAll_cons_mk (Below.trod laidOut (by kernel_rfl) (of_decide_eq_true (by kernel_rfl)) k0 bel lt0) (trodAll_cons_mk (shut_bool Tryz.underlying4 _) trodAll_mk0)), rfl, bel.frame _, fun h => by cases h⟩
theorem over : Rows.auditNothingRow.holds Tryz.pinned (OpenSpec.ofChange Rows.auditNothingSpec) :=
  OpenClaim.holds_of_wide 4 Tryz.f4 rfl rfl rfl rfl rfl rfl rfl ⟨rfl, rfl, rfl, rfl, rfl⟩ rfl rfl rfl rfl rfl (by kernel_rfl) Tryz.func4 (by kernel_rfl)
    (of_decide_eq_true (by kernel_rfl)) (by unfold Func.isWrapper; first | (rw [if_pos (by decide +kernel)]; kernel_rfl) | (rw [if_neg (by decide +kernel)]; exact ⟨rfl, rfl⟩))
    (fun os started H enc _ => lifted os started H enc)
theorem proved : Rows.AuditNothingSaid := over
end Go.Proofs.YtlggkknkbbhooaaGreat.auditNothing
namespace Go.Proofs.YtlggkknkbbhooaaGreat
/-- The row, under a short name, for the claim. -/
theorem auditNothing_holds : Rows.AuditNothingSaid := auditNothing.proved
#print axioms auditNothing_holds
end Go.Proofs.YtlggkknkbbhooaaGreat

