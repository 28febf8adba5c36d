/-
  AllocPlays answers true for every input, and each argument reads as it did. No conditions.
-/
import Derived.Test.YtncmoaggkdlkhaaGreatRows
import Derived.Test.YtncmoaggkdlkhaaGreatCmPlaysT
import Derived.WalkKit
import Derived.ProofKit
import Derived.OpenShut
import Derived.ShutString
import Derived.ChangeOld
import Derived.Below
import Derived.SizedLaws
import Derived.Carry
namespace Go.Proofs.YtncmoaggkdlkhaaGreat.allocPlays
open Go.ChangeShapes Go.WideShapes Go.ChangeAt Go.WideElems Go.RowKit
open Go.ChangeMaps (open_string shut_string)
theorem own : ownKnob Tryz.prog.godebug = none := by kernel_rfl
theorem laidOut : laidOutB Tryz.prog = true := by kernel_rfl
theorem walk (W : World) (a0 : Option Addr) (l0 c0 : Nat) (z0 : List Int) (r0 : Cm.IsRow .i64 W a0 l0 c0 z0) (a1 : Bool) (a2 : Option Addr) (l2 c2 : Nat) (L2 : List Cm.Stp3) (n2 : a2 = none → l2 = 0 ∧ c2 = 0) (m2 : ∀ x, a2 = some x → l2 ≤ c2 ∧ x.spot = none ∧ ∃ C el fz, W.heap[x.block]? = some (.cells C el fz)) (e2 : L2.length = l2) (r2 : ∀ x, a2 = some x → ∀ j (hj : j < L2.length), Cm.RecS W x j L2[j]) : Calls Tryz.prog 3 #[.slice a0 l0 c0, .bool a1, .slice a2 l2 c2] W fun e W' => e = .returned (.bool true) ∧ Below W.heap.size W W' := by
  obtain ⟨ι0, h0, v0, le0, H0, x0, ro0, q0, s0⟩ := Cm.open_arg (Cm.Inv.start (w := W) (glb := Cm.glb) (Nat.zero_le _) (fun _ _ => trivial)) (Cm.ro_empty _) (fun _ h => h) r0
  obtain ⟨ι1, h1, v1, le1, H1, x1, ro1, q1, s1⟩ := Cm.open_steps H0 ro0 (fun _ h => h) n2 m2 e2 r2
  obtain ⟨fuel, v, h', e, hv⟩ := Cm.allocPlays_cal (cl := a1) (s0.exd x1).rin.1 s1 fun q hq => by
    obtain ⟨j, hj, rfl⟩ := List.getElem_of_mem hq
    cases a2 with
    | none => have := n2 rfl; omega
    | some x =>
      obtain ⟨_, _, _, _, _, _, _, _, _, hb⟩ := r2 x rfl j hj
      exact hb
  subst hv
  exact Cm.law_walk (Cm.callF_ok Cm.tt_ok fuel) H1 (.cons _ _ _ _ (q0.mono le1) (.cons _ _ _ _ (.bool _) (.cons _ _ _ _ q1 .nil))) e
set_option maxRecDepth 100000 in
theorem lifted (os : Os) (started : os.Started) (H : Type) (enc : TypeId × Value → H) :
    ReturnsInHanded {} Tryz.checked os 3 .any (Rows.allocPlaysSpec.pre6 enc Tryz.prog Tryz.f3 Rows.allocPlaysRow.domain false) (Rows.allocPlaysSpec.post enc Tryz.prog Tryz.f3 false true false false) := by
  refine returnsInHanded_of_change_sized (C := Tryz.checked) own started (by kernel_rfl) Tryz.func3
    (ChangeSpec.witness6 (enc := enc) (C := Tryz.checked) false ⟨#[], #[.slice none 0 0, .bool false, .slice none 0 0], []⟩ 8 (by kernel_rfl) (by kernel_rfl) (by kernel_rfl) (by kernel_rfl)) ?_
  intro W base args ds gs before hval0 hW hcnd hsz0 _
  have hval : ∀ (j : Nat) t v, Tryz.f3.params[j]? = some t → args[j]? = some v → Value.okWide Tryz.prog W .any base t v := hval0
  have hW' := hW
  obtain ⟨p, q, hA0, hV, rfl, hfz, hnd⟩ := hW
  have hA : DataW.TrodAll enc Tryz.prog W 0 (fun _ => true) true Tryz.f3.params.toList args.toList ds p := hA0
  rw [Tryz.params3] at hA hval
  obtain ⟨v0, vs0, d0, ds0, p0, q0, hargs, rfl, rfl, h0, r0⟩ := trodAll_cons hA
  obtain ⟨v1, vs1, d1, ds1, p1, q1, rfl, rfl, rfl, h1, r1⟩ := trodAll_cons r0
  obtain ⟨v2, vs2, d2, ds2, p2, q2, rfl, rfl, rfl, h2, r2⟩ := trodAll_cons r1
  obtain ⟨rfl, rfl, rfl⟩ := trodAll_nil r2
  obtain rfl : args = #[v0, v1, v2] := by cases args; simp_all
  obtain ⟨rfl, rfl⟩ := trodVars_none hV
  obtain ⟨a0, l0, c0, z0, rfl, e0⟩ := Cm.row_in Tryz.underlying22 Tryz.underlying3 (by kernel_rfl) (hval 0 22 v0 rfl rfl) h0
  have k0 := h0
  have lt0 : ∀ x ∈ p0, x.block < W.heap.size := by obtain ⟨m, hm⟩ := k0; exact DataW.trod_lt m _ _ _ hm
  obtain ⟨a1, rfl, rfl, rfl⟩ := open_bool Tryz.underlying4 (hval 1 4 v1 rfl rfl) h1
  obtain ⟨a2, l2, c2, L2, rfl, n2, m2, e2, g2⟩ := Cm.steps_of (tn := 3) (ti := 22) (ei := 3) Tryz.underlying23 Tryz.underlying35 (by kernel_rfl) ⟨rfl, rfl⟩ ⟨rfl, rfl⟩ ⟨rfl, rfl⟩ Tryz.underlying22 (by kernel_rfl) Tryz.underlying3 (by kernel_rfl) Tryz.underlying3 (by kernel_rfl) (hval 2 23 v2 rfl rfl) h2
  have k2 := h2
  have lt2 : ∀ x ∈ p2, x.block < W.heap.size := by obtain ⟨m, hm⟩ := k2; exact DataW.trod_lt m _ _ _ hm
  clear hA0 hval0 hsz0
  refine (walk W a0 l0 c0 z0 e0 a1 a2 l2 c2 L2 n2 m2 e2 g2).mono fun e W' ⟨he, bel⟩ => ?_
  subst he
  exact ⟨_, rfl, _, _, _, [], _, [], hW', trodAll_mk1 (shut_bool Tryz.underlying4 _), (trodAll_cons_mk (Below.trod laidOut (by kernel_rfl) (of_decide_eq_true (by kernel_rfl)) k0 bel lt0) (trodAll_cons_mk (shut_bool Tryz.underlying4 _) (trodAll_cons_mk (Below.trod laidOut (by kernel_rfl) (of_decide_eq_true (by kernel_rfl)) k2 bel lt2) trodAll_mk0))), rfl, bel.frame _, fun h => by cases h⟩
theorem over : Rows.allocPlaysRow.holds Tryz.pinned (OpenSpec.ofChange Rows.allocPlaysSpec) :=
  OpenClaim.holds_of_wide 3 Tryz.f3 rfl rfl rfl rfl rfl rfl rfl ⟨rfl, rfl, rfl, rfl, rfl⟩ rfl rfl rfl rfl rfl (by kernel_rfl) Tryz.func3 (by kernel_rfl)
    (of_decide_eq_true (by kernel_rfl)) (by unfold Func.isWrapper; first | (rw [if_pos (by decide +kernel)]; kernel_rfl) | (rw [if_neg (by decide +kernel)]; exact ⟨rfl, rfl⟩))
    (fun os started H enc _ => lifted os started H enc)
theorem proved : Rows.AllocPlaysSaid := over
end Go.Proofs.YtncmoaggkdlkhaaGreat.allocPlays
namespace Go.Proofs.YtncmoaggkdlkhaaGreat
/-- The row, under a short name, for the claim. -/
theorem allocPlays_holds : Rows.AllocPlaysSaid := allocPlays.proved
#print axioms allocPlays_holds
end Go.Proofs.YtncmoaggkdlkhaaGreat

