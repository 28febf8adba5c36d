/-
  AuditTraces answers true for every input, and each argument reads as it did. No conditions.
-/
import Derived.Test.YtlggkknkbbhooaaGreatRows
import Derived.Test.YtlggkknkbbhooaaGreatCmUC
import Derived.Test.YtlggkknkbbhooaaGreatCmE
import Derived.WalkKit
import Derived.ProofKit
import Derived.OpenShut
import Derived.ShutString
import Derived.ChangeOld
import Derived.Below
import Derived.SizedLaws
import Derived.Carry
namespace Go.Proofs.YtlggkknkbbhooaaGreat.auditTraces
open Go.ChangeShapes Go.WideShapes Go.ChangeAt Go.WideElems Go.RowKit
open Go.ChangeMaps (open_string shut_string)
theorem own : ownKnob Tryz.prog.godebug = none := by kernel_rfl
theorem laidOut : laidOutB Tryz.prog = true := by kernel_rfl
theorem walk (W : World) (a0 : Option Addr) (l0 c0 : Nat) (E0 : List Cm.Ev) (r0 : Cm.IsEvs W a0 l0 c0 E0) : Calls Tryz.prog 3 #[.slice a0 l0 c0] W fun e W' => e = .returned (.bool true) ∧ Below W.heap.size W W' := by
  obtain ⟨ι0, h0, v0, le0, H0, x0, ro0, q0, s0⟩ := Cm.open_evs (Cm.Inv.start (w := W) (glb := Cm.glb) (Nat.zero_le _) (fun _ _ => trivial)) (Cm.ro_empty _) (fun _ h => h) r0
  obtain ⟨fuel, v, h', e, hv⟩ := Cm.traces_cal s0
  subst hv
  exact Cm.law_walk (Cm.callF_ok Cm.tt_ok fuel) H0 (.cons _ _ _ _ q0 .nil) e
set_option maxRecDepth 100000 in
theorem lifted (os : Os) (started : os.Started) (H : Type) (enc : TypeId × Value → H) :
    ReturnsInHanded {} Tryz.checked os 3 .any (Rows.auditTracesSpec.pre6 enc Tryz.prog Tryz.f3 Rows.auditTracesRow.domain false) (Rows.auditTracesSpec.post enc Tryz.prog Tryz.f3 false true false false) := by
  refine returnsInHanded_of_change_sized (C := Tryz.checked) own started (by kernel_rfl) Tryz.func3
    (ChangeSpec.witness6 (enc := enc) (C := Tryz.checked) false ⟨#[], #[.slice none 0 0], []⟩ 8 (by kernel_rfl) (by kernel_rfl) (by kernel_rfl) (by kernel_rfl)) ?_
  intro W base args ds gs before hval0 hW hcnd hsz0 _
  have hval : ∀ (j : Nat) t v, Tryz.f3.params[j]? = some t → args[j]? = some v → Value.okWide Tryz.prog W .any base t v := hval0
  have hW' := hW
  obtain ⟨p, q, hA0, hV, rfl, hfz, hnd⟩ := hW
  have hA : DataW.TrodAll enc Tryz.prog W 0 (fun _ => true) true Tryz.f3.params.toList args.toList ds p := hA0
  rw [Tryz.params3] at hA hval
  obtain ⟨v0, vs0, d0, ds0, p0, q0, hargs, rfl, rfl, h0, r0⟩ := trodAll_cons hA
  obtain ⟨rfl, rfl, rfl⟩ := trodAll_nil r0
  obtain rfl : args = #[v0] := by cases args; simp_all
  obtain ⟨rfl, rfl⟩ := trodVars_none hV
  obtain ⟨a0, l0, c0, E0, rfl, e0⟩ := Cm.evs_of (ti := 3) Tryz.underlying22 Tryz.underlying60 (by kernel_rfl) ⟨rfl, rfl⟩ ⟨rfl, rfl⟩ ⟨rfl, rfl⟩ ⟨rfl, rfl⟩ ⟨rfl, rfl⟩ Tryz.underlying3 (by kernel_rfl) (hval 0 22 v0 rfl rfl) h0
  have k0 := h0
  have lt0 : ∀ x ∈ p0, x.block < W.heap.size := by obtain ⟨m, hm⟩ := k0; exact DataW.trod_lt m _ _ _ hm
  clear hA0 hval0 hsz0
  refine (walk W a0 l0 c0 E0 e0).mono fun e W' ⟨he, bel⟩ => ?_
  subst he
  exact ⟨_, rfl, _, _, _, [], _, [], hW', trodAll_mk1 (shut_bool Tryz.underlying4 _), (trodAll_cons_mk (Below.trod laidOut (by kernel_rfl) (of_decide_eq_true (by kernel_rfl)) k0 bel lt0) trodAll_mk0), rfl, bel.frame _, fun h => by cases h⟩
theorem over : Rows.auditTracesRow.holds Tryz.pinned (OpenSpec.ofChange Rows.auditTracesSpec) :=
  OpenClaim.holds_of_wide 3 Tryz.f3 rfl rfl rfl rfl rfl rfl rfl ⟨rfl, rfl, rfl, rfl, rfl⟩ rfl rfl rfl rfl rfl (by kernel_rfl) Tryz.func3 (by kernel_rfl)
    (of_decide_eq_true (by kernel_rfl)) (by unfold Func.isWrapper; first | (rw [if_pos (by decide +kernel)]; kernel_rfl) | (rw [if_neg (by decide +kernel)]; exact ⟨rfl, rfl⟩))
    (fun os started H enc _ => lifted os started H enc)
theorem proved : Rows.AuditTracesSaid := over
end Go.Proofs.YtlggkknkbbhooaaGreat.auditTraces
namespace Go.Proofs.YtlggkknkbbhooaaGreat
/-- The row, under a short name, for the claim. -/
theorem auditTraces_holds : Rows.AuditTracesSaid := auditTraces.proved
#print axioms auditTraces_holds
end Go.Proofs.YtlggkknkbbhooaaGreat

