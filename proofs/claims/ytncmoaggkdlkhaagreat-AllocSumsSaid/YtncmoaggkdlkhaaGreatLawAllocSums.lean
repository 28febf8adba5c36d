/-
  AllocSums answers true for every input, and each argument reads as it did. No conditions.
-/
import Derived.Test.YtncmoaggkdlkhaaGreatRows
import Derived.Test.YtncmoaggkdlkhaaGreatCmSumsT
import Derived.WalkKit
import Derived.ProofKit
import Derived.OpenShut
import Derived.ShutString
import Derived.ChangeOld
import Derived.Below
import Derived.SizedLaws
import Derived.Carry
namespace Go.Proofs.YtncmoaggkdlkhaaGreat.allocSums
open Go.ChangeShapes Go.WideShapes Go.ChangeAt Go.WideElems Go.RowKit
open Go.ChangeMaps (open_string shut_string)
theorem own : ownKnob Tryz.prog.godebug = none := by kernel_rfl
theorem laidOut : laidOutB Tryz.prog = true := by kernel_rfl
theorem walk (W : World) (a0 : Bool) (a1 : Int) (_w1 : (Lit.int .i64 a1).wf = true) (a2 : Option Addr) (l2 c2 : Nat) (z2 : List Int) (r2 : Cm.IsRow .i64 W a2 l2 c2 z2) (a3 : Option Addr) (l3 c3 : Nat) (z3 : List Int) (r3 : Cm.IsRow .i64 W a3 l3 c3 z3) : Calls Tryz.prog 5 #[.bool a0, .int .i64 a1, .slice a2 l2 c2, .slice a3 l3 c3] W fun e W' => e = .returned (.bool true) ∧ Below W.heap.size W W' := by
  obtain ⟨ι0, h0, v0, le0, H0, x0, ro0, q0, s0⟩ := Cm.open_arg (Cm.Inv.start (w := W) (glb := Cm.glb) (Nat.zero_le _) (fun _ _ => trivial)) (Cm.ro_empty _) (fun _ h => h) r2
  obtain ⟨ι1, h1, v1, le1, H1, x1, ro1, q1, s1⟩ := Cm.open_arg H0 ro0 (fun _ h => h) r3
  obtain ⟨fuel, v, h', e, hv⟩ := Cm.allocSums_cal (cl := a0) (n := a1) (s0.exd x1).rin.1 s1.rin.1 fun x hx => Cm.i64_le (s1.2.1 x (List.mem_of_mem_take hx))
  subst hv
  exact Cm.law_walk (Cm.callF_ok Cm.tt_ok fuel) H1 (.cons _ _ _ _ (.bool _) (.cons _ _ _ _ (.int _ _) (.cons _ _ _ _ (q0.mono le1) (.cons _ _ _ _ q1 .nil)))) e
set_option maxRecDepth 100000 in
theorem lifted (os : Os) (started : os.Started) (H : Type) (enc : TypeId × Value → H) :
    ReturnsInHanded {} Tryz.checked os 5 .any (Rows.allocSumsSpec.pre6 enc Tryz.prog Tryz.f5 Rows.allocSumsRow.domain false) (Rows.allocSumsSpec.post enc Tryz.prog Tryz.f5 false true false false) := by
  refine returnsInHanded_of_change_sized (C := Tryz.checked) own started (by kernel_rfl) Tryz.func5
    (ChangeSpec.witness6 (enc := enc) (C := Tryz.checked) false ⟨#[], #[.bool false, .int .i64 0, .slice none 0 0, .slice none 0 0], []⟩ 8 (by kernel_rfl) (by kernel_rfl) (by kernel_rfl) (by kernel_rfl)) ?_
  intro W base args ds gs before hval0 hW hcnd hsz0 _
  have hval : ∀ (j : Nat) t v, Tryz.f5.params[j]? = some t → args[j]? = some v → Value.okWide Tryz.prog W .any base t v := hval0
  have hW' := hW
  obtain ⟨p, q, hA0, hV, rfl, hfz, hnd⟩ := hW
  have hA : DataW.TrodAll enc Tryz.prog W 0 (fun _ => true) true Tryz.f5.params.toList args.toList ds p := hA0
  rw [Tryz.params5] at hA hval
  obtain ⟨v0, vs0, d0, ds0, p0, q0, hargs, rfl, rfl, h0, r0⟩ := trodAll_cons hA
  obtain ⟨v1, vs1, d1, ds1, p1, q1, rfl, rfl, rfl, h1, r1⟩ := trodAll_cons r0
  obtain ⟨v2, vs2, d2, ds2, p2, q2, rfl, rfl, rfl, h2, r2⟩ := trodAll_cons r1
  obtain ⟨v3, vs3, d3, ds3, p3, q3, rfl, rfl, rfl, h3, r3⟩ := trodAll_cons r2
  obtain ⟨rfl, rfl, rfl⟩ := trodAll_nil r3
  obtain rfl : args = #[v0, v1, v2, v3] := by cases args; simp_all
  obtain ⟨rfl, rfl⟩ := trodVars_none hV
  obtain ⟨a0, rfl, rfl, rfl⟩ := open_bool Tryz.underlying4 (hval 0 4 v0 rfl rfl) h0
  obtain ⟨a1, rfl, rfl, rfl, w1⟩ := open_int Tryz.underlying3 (hval 1 3 v1 rfl rfl) h1
  obtain ⟨a2, l2, c2, z2, rfl, e2⟩ := Cm.row_in Tryz.underlying22 Tryz.underlying3 (by kernel_rfl) (hval 2 22 v2 rfl rfl) h2
  have k2 := h2
  have lt2 : ∀ x ∈ p2, x.block < W.heap.size := by obtain ⟨m, hm⟩ := k2; exact DataW.trod_lt m _ _ _ hm
  obtain ⟨a3, l3, c3, z3, rfl, e3⟩ := Cm.row_in Tryz.underlying22 Tryz.underlying3 (by kernel_rfl) (hval 3 22 v3 rfl rfl) h3
  have k3 := h3
  have lt3 : ∀ x ∈ p3, x.block < W.heap.size := by obtain ⟨m, hm⟩ := k3; exact DataW.trod_lt m _ _ _ hm
  clear hA0 hval0 hsz0
  refine (walk W a0 a1 w1 a2 l2 c2 z2 e2 a3 l3 c3 z3 e3).mono fun e W' ⟨he, bel⟩ => ?_
  subst he
  exact ⟨_, rfl, _, _, _, [], _, [], hW', trodAll_mk1 (shut_bool Tryz.underlying4 _), (trodAll_cons_mk (shut_bool Tryz.underlying4 _) (trodAll_cons_mk (shut_int Tryz.underlying3 w1) (trodAll_cons_mk (Below.trod laidOut (by kernel_rfl) (of_decide_eq_true (by kernel_rfl)) k2 bel lt2) (trodAll_cons_mk (Below.trod laidOut (by kernel_rfl) (of_decide_eq_true (by kernel_rfl)) k3 bel lt3) trodAll_mk0)))), rfl, bel.frame _, fun h => by cases h⟩
theorem over : Rows.allocSumsRow.holds Tryz.pinned (OpenSpec.ofChange Rows.allocSumsSpec) :=
  OpenClaim.holds_of_wide 5 Tryz.f5 rfl rfl rfl rfl rfl rfl rfl ⟨rfl, rfl, rfl, rfl, rfl⟩ rfl rfl rfl rfl rfl (by kernel_rfl) Tryz.func5 (by kernel_rfl)
    (of_decide_eq_true (by kernel_rfl)) (by unfold Func.isWrapper; first | (rw [if_pos (by decide +kernel)]; kernel_rfl) | (rw [if_neg (by decide +kernel)]; exact ⟨rfl, rfl⟩))
    (fun os started H enc _ => lifted os started H enc)
theorem proved : Rows.AllocSumsSaid := over
end Go.Proofs.YtncmoaggkdlkhaaGreat.allocSums
namespace Go.Proofs.YtncmoaggkdlkhaaGreat
/-- The row, under a short name, for the claim. -/
theorem allocSums_holds : Rows.AllocSumsSaid := allocSums.proved
#print axioms allocSums_holds
end Go.Proofs.YtncmoaggkdlkhaaGreat

