/-
  FairAsks answers true for every input, and each argument reads as it did. No conditions.
-/
import Derived.Test.YthcmiceheohpjaaRows
import Derived.Test.YthcmiceheohpjaaCmPL
import Derived.Test.YthcmiceheohpjaaCmPO
import Derived.WalkKit
import Derived.ProofKit
import Derived.OpenShut
import Derived.ShutString
import Derived.ChangeOld
import Derived.Below
import Derived.SizedLaws
import Derived.Carry
namespace Go.Proofs.Ythcmiceheohpjaa.fairAsks
open Go.ChangeShapes Go.WideShapes Go.ChangeAt Go.RowKit
open Go.ChangeMaps (open_string shut_string)
theorem own : ownKnob Try.prog.godebug = none := by kernel_rfl
theorem laidOut : laidOutB Try.prog = true := by kernel_rfl
theorem walk (a : Option Addr) (len cap : Nat) (recs : List (List Int × List Int × Int)) (k : Int) (W : World) (hn : a = none → len = 0 ∧ cap = 0) (hs : ∀ x, a = some x → len ≤ cap ∧ x.spot = none ∧ ∃ C el fz, W.heap[x.block]? = some (.cells C el fz)) (hl : recs.length = len) (hb : len * 56 ≤ reachBytes)
    (hr : ∀ x, a = some x → ∀ j (hj : j < recs.length), Cm.Rec3 W x j reachBytes recs[j].1 recs[j].2.1 recs[j].2.2) (hq : ∀ q ∈ recs, q.1.length * 8 ≤ reachBytes ∧ q.2.1.length * 8 ≤ reachBytes) (w1 : (Lit.int .i64 k).wf = true) :
    Calls Try.prog 6 #[.slice a len cap, .int .i64 k] W fun e W' => e = .returned (.bool true) ∧ Below W.heap.size W W' := by
  have rb : reachBytes ≤ 281474976710656 := by decide
  obtain ⟨ι1, h1, v1, le1, H1, x1, ro1, r1, s1⟩ := Cm.open_recs (Cm.Inv.start (w := W) (glb := Cm.glb) (Nat.zero_le _)) (Cm.ro_empty _) (fun _ h => h) hn hs hl hr
  have hk : -9223372036854775808 ≤ k ∧ k ≤ 9223372036854775807 := by
    have w2 : (decide (IntKind.i64.min ≤ k) && decide (k ≤ IntKind.i64.max)) = true := w1
    rw [Bool.and_eq_true, decide_eq_true_eq, decide_eq_true_eq] at w2
    have e1 : IntKind.i64.min = -9223372036854775808 := by decide
    have e2 : IntKind.i64.max = 9223372036854775807 := by decide
    omega
  obtain ⟨fuel, v, h', e, hv⟩ := Cm.asks_cal (n := k) s1 (fun s hs' => by
    obtain ⟨q, hq1, rfl⟩ := List.mem_map.1 hs'
    have := hq q hq1
    simp only [Cm.toStp]; omega) (by rw [List.length_map]; omega) hk
  subst hv
  exact Cm.law_walk (Cm.callF_ok Cm.tt_ok fuel) H1 (.cons _ _ _ _ r1 (.cons _ _ _ _ (.int _ _) .nil)) e
set_option maxRecDepth 100000 in
theorem lifted (os : Os) (started : os.Started) (H : Type) (enc : TypeId × Value → H) :
    ReturnsInHanded {} Try.checked os 6 .any (Rows.fairAsksSpec.pre6 enc Try.prog Try.f6 Rows.fairAsksRow.domain false) (Rows.fairAsksSpec.post enc Try.prog Try.f6 false true false false) := by
  refine returnsInHanded_of_change_sized (C := Try.checked) own started (by kernel_rfl) Try.func6
    (ChangeSpec.witness6 (enc := enc) (C := Try.checked) false ⟨#[], #[.slice none 0 0, .int .i64 0], []⟩ 8 (by kernel_rfl) (by kernel_rfl) (by kernel_rfl) (by kernel_rfl)) ?_
  intro W base args ds gs before hval0 hW hcnd hsz0 _
  have hsz : (DataW.weightsEach Try.prog (Try.f6.params.toList ++ Rows.fairAsksSpec.plain.varTypes Try.prog) (ds ++ gs)).all (· ≤ reachBytes) = true := hsz0
  have hval : ∀ (j : Nat) t v, Try.f6.params[j]? = some t → args[j]? = some v → Value.okWide Try.prog W .any base t v := hval0
  have hW' := hW
  obtain ⟨p, q, hA0, hV, rfl, hfz, hnd⟩ := hW
  have hA : DataW.TrodAll enc Try.prog W 0 (fun _ => true) true Try.f6.params.toList args.toList ds p := hA0
  rw [Try.params6] at hA hval hsz
  obtain ⟨v0, vs0, d0, ds0, p0, q0, hargs, rfl, rfl, h0, r0⟩ := trodAll_cons hA
  obtain ⟨v1, vs1, d1, ds1, p1, q1, rfl, rfl, rfl, h1, r1⟩ := trodAll_cons r0
  obtain ⟨rfl, rfl, rfl⟩ := trodAll_nil r1
  obtain rfl : args = #[v0, v1] := by cases args; simp_all
  obtain ⟨rfl, rfl⟩ := trodVars_none hV
  have hw0 : (d0.weights Try.prog 34).all (· ≤ reachBytes) = true := by
    have h2 : ((d0.weights Try.prog 34) ++ _).all (· ≤ reachBytes) = true := hsz
    rw [List.all_append, Bool.and_eq_true] at h2
    exact h2.1
  obtain ⟨a0, len0, cap0, rec0, rfl, hn0, hs0, hl0, hb0, hr0, hq0⟩ := Cm.recs_of (ti := 30) (ei := 3) (tn := 3) Try.underlying34 Try.underlying36 (by kernel_rfl) ⟨rfl, rfl⟩ ⟨rfl, rfl⟩ ⟨rfl, rfl⟩ Try.underlying30 (by kernel_rfl) Try.underlying3 (by kernel_rfl) (by kernel_rfl) Try.underlying3 (by kernel_rfl) (hval 0 34 v0 rfl rfl) h0 hw0 (by kernel_rfl)
  have k0 := h0
  have lt0 : ∀ x ∈ p0, x.block < W.heap.size := by obtain ⟨m, hm⟩ := k0; exact DataW.trod_lt m _ _ _ hm
  obtain ⟨a1, rfl, rfl, rfl, w1⟩ := open_int Try.underlying3 (hval 1 3 v1 rfl rfl) h1
  clear hA0 hval0 hsz0 hsz
  refine (walk a0 len0 cap0 rec0 a1 W hn0 hs0 hl0 hb0 hr0 hq0 w1).mono fun e W' ⟨he, bel⟩ => ?_
  subst he
  exact ⟨_, rfl, _, _, _, [], _, [], hW', trodAll_mk1 (shut_bool Try.underlying4 _), (trodAll_cons_mk (Below.trod laidOut (by kernel_rfl) (of_decide_eq_true (by kernel_rfl)) k0 bel lt0) (trodAll_cons_mk (shut_int Try.underlying3 w1) trodAll_mk0)), rfl, bel.frame _, fun h => by cases h⟩
theorem over : Rows.fairAsksRow.holds Try.pinned (OpenSpec.ofChange Rows.fairAsksSpec) :=
  OpenClaim.holds_of_wide 6 Try.f6 rfl rfl rfl rfl rfl rfl rfl ⟨rfl, rfl, rfl, rfl, rfl⟩ rfl rfl rfl rfl rfl (by kernel_rfl) Try.func6 (by kernel_rfl)
    (of_decide_eq_true (by kernel_rfl)) (by unfold Func.isWrapper; first | (rw [if_pos (by decide +kernel)]; kernel_rfl) | (rw [if_neg (by decide +kernel)]; exact ⟨rfl, rfl⟩))
    (fun os started H enc _ => lifted os started H enc)
theorem proved : Rows.FairAsksSaid := over
end Go.Proofs.Ythcmiceheohpjaa.fairAsks
namespace Go.Proofs.Ythcmiceheohpjaa
/-- The row, under a short name, for the claim. -/
theorem fairAsks_holds : Rows.FairAsksSaid := fairAsks.proved
#print axioms fairAsks_holds
end Go.Proofs.Ythcmiceheohpjaa
