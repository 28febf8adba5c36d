/-
  ScriptSpoilt answers true for every input, and each argument reads as it did; the listed package variables are tied to the program's text. No conditions beside the card's own.
-/
import Derived.Test.YthdeoeokjmmnbaaDoorRows
import Derived.Test.YthdeoeokjmmnbaaDoorTie
import Derived.Test.YthdeoeokjmmnbaaDoorCards
import Derived.Test.YthdeoeokjmmnbaaDoorCmSR
import Derived.Test.YthdeoeokjmmnbaaDoorCmSS
import Derived.Test.YthdeoeokjmmnbaaDoorCmSA
import Derived.WalkKit
import Derived.ProofKit
import Derived.OpenShut
import Derived.ShutString
import Derived.ChangeOld
import Derived.Below
import Derived.SizedLaws
import Derived.LaidMore
import Derived.Stop.Joined
import Derived.SevenTiedAt
import Derived.Carry
namespace Go.Proofs.YthdeoeokjmmnbaaDoor.scriptSpoilt
open Go.ChangeShapes Go.WideShapes Go.ChangeAt Go.WideMaps Go.WideElems Go.RowKit
open Go.ChangeMaps (open_string shut_string)
theorem own : ownKnob Tryd.prog.godebug = none := by kernel_rfl
abbrev laid := Rows.scriptSpoiltRow.laid
theorem laidOut : laidOutB Tryd.prog = true := by kernel_rfl
theorem door_met (os : Os) (args : Array Value) : laidMetH Tryd.prog laid ((World.doorLaid Tryd.prog 400 os).forCall (fun _ _ => 0) ⟨#[], args, []⟩).memory :=
  laidMetH_of_parts3 (fuel := 8) (laidMet_of_run' 8 (by kernel_rfl) (by kernel_rfl)) (by kernel_rfl) (by kernel_rfl)
theorem walk (W : World) (L : laidMetH Tryd.prog laid W) (a0 : Value) (J0 : Cm.Job) (r0 : Cm.IsJob W a0 J0) (a1 : Int) (w1 : (Lit.int .i64 a1).wf = true) (s2 : ByteArray) (_w2 : s2.size ≤ maxLen) (a3 : Bool) : Calls Tryd.prog 5 #[a0, .int .i64 a1, .string s2, .bool a3] W fun e W' => e = .returned (.bool true) ∧ Below W.heap.size W W' := by
  obtain ⟨ι0, h0, vi, vp, le0, H0, x0, ro0, q0, i0, p0, l1, l2, l3⟩ := Cm.open_job (Cm.start_sc L) (Cm.ro_empty _) (fun _ h => h) (Cm.heap_pos (Cm.facts_laid L)) r0
  obtain ⟨fuel, v, h', e, hv⟩ := Cm.spoilt_cal (raw := s2.data.toList) (cut := a3) i0 p0 l1 l2 l3 (Cm.i64_of_wf w1)
  subst hv
  exact Cm.law_walk (Cm.callF_ok Cm.tt_ok fuel) H0 (.cons _ _ _ _ q0 (.cons _ _ _ _ (.int _ _) (.cons _ _ _ _ (.str _) (.cons _ _ _ _ (.bool _) .nil)))) e
set_option maxRecDepth 100000 in
theorem lifted (os : Os) (started : os.Started) (H : Type) (enc : TypeId × Value → H) :
    ReturnsInHanded {} Tryd.checked os 5 .any (fun w args => (Rows.scriptSpoiltSpec.pre enc Tryd.prog Tryd.f5 [] false w args ∧ laidMetH Tryd.prog laid w) ∧ sizedMet enc Tryd.prog Tryd.f5 (OpenSpec.ofChange Rows.scriptSpoiltSpec) false w args)
      (Rows.scriptSpoiltSpec.post enc Tryd.prog Tryd.f5 false true false false) := by
  refine returnsInHanded_of_change_and (C := Tryd.checked) (X := fun w _ => laidMetH Tryd.prog laid w) (fun _ _ _ hh h => h.of_heap hh) own started (by kernel_rfl) Tryd.func5
    (ChangeSpec.witness_shaped (enc := enc) (C := Tryd.checked) (os := os) (X := fun w _ => laidMetH Tryd.prog laid w) false (World.doorLaid Tryd.prog 400 os) #[.agg #[.bool false, .int .i64 0, .int .i64 0, .int .i64 0, .slice none 0 0, .slice none 0 0], .int .i64 0, .string ByteArray.empty, .bool false] 8 rfl (World.shaped_of_RefB (by kernel_rfl) (by kernel_rfl)) (by kernel_rfl) (by kernel_rfl) (by kernel_rfl) (door_met os _)) ?_
  intro W base args ds gs before hval0 hW _ _ hL _
  have hval : ∀ (j : Nat) t v, Tryd.f5.params[j]? = some t → args[j]? = some v → Value.okWide Tryd.prog W .any base t v := hval0
  have hW' := hW
  obtain ⟨p, q, hA0, hV, rfl, hfz, hnd⟩ := hW
  have hA : DataW.TrodAll enc Tryd.prog W 0 (fun _ => true) true Tryd.f5.params.toList args.toList ds p := hA0
  rw [Tryd.params5] at hA hval
  obtain ⟨v0, vs0, d0, ds0, p0, q0, hargs, rfl, rfl, h0, r0⟩ := trodAll_cons hA
  obtain ⟨v1, vs1, d1, ds1, p1, q1, rfl, rfl, rfl, h1, r1⟩ := trodAll_cons r0
  obtain ⟨v2, vs2, d2, ds2, p2, q2, rfl, rfl, rfl, h2, r2⟩ := trodAll_cons r1
  obtain ⟨v3, vs3, d3, ds3, p3, q3, rfl, rfl, rfl, h3, r3⟩ := trodAll_cons r2
  obtain ⟨rfl, rfl, rfl⟩ := trodAll_nil r3
  obtain rfl : args = #[v0, v1, v2, v3] := by cases args; simp_all
  obtain ⟨rfl, rfl⟩ := trodVars_none hV
  obtain ⟨J0, e0⟩ := Cm.job_in (tb := 4) (tl := 23) (tr := 24) (ti := 3) Tryd.underlying26 (by kernel_rfl) ⟨rfl, rfl⟩ ⟨rfl, rfl⟩ ⟨rfl, rfl⟩ ⟨rfl, rfl⟩ Tryd.underlying4 (by kernel_rfl) Tryd.underlying23 (by kernel_rfl) ⟨rfl, rfl⟩ ⟨rfl, rfl⟩ ⟨rfl, rfl⟩ Tryd.underlying3 (by kernel_rfl) Tryd.underlying24 (by kernel_rfl) (hval 0 26 v0 rfl rfl) h0
  have k0 := h0
  have lt0 : ∀ x ∈ p0, x.block < W.heap.size := by obtain ⟨m, hm⟩ := k0; exact DataW.trod_lt m _ _ _ hm
  obtain ⟨a1, rfl, rfl, rfl, w1⟩ := open_int Tryd.underlying3 (hval 1 3 v1 rfl rfl) h1
  obtain ⟨s2, rfl, rfl, rfl, w2⟩ := open_string Tryd.underlying9 (hval 2 9 v2 rfl rfl) h2
  obtain ⟨a3, rfl, rfl, rfl⟩ := open_bool Tryd.underlying4 (hval 3 4 v3 rfl rfl) h3
  clear hA0 hval0
  refine (walk W hL v0 J0 e0 a1 w1 s2 w2 a3).mono fun e W' ⟨he, bel⟩ => ?_
  subst he
  exact ⟨_, rfl, _, _, _, [], _, [], hW', trodAll_mk1 (shut_bool Tryd.underlying4 _), (trodAll_cons_mk (Below.trod laidOut (by kernel_rfl) (of_decide_eq_true (by kernel_rfl)) k0 bel lt0) (trodAll_cons_mk (shut_int Tryd.underlying3 w1) (trodAll_cons_mk (shut_string Tryd.underlying9 w2) (trodAll_cons_mk (shut_bool Tryd.underlying4 _) trodAll_mk0)))), rfl, bel.frame _, fun h => by cases h⟩
theorem over : Rows.scriptSpoiltRow.holds Tryd.pinned (OpenSpec.ofChange Rows.scriptSpoiltSpec) :=
  OpenClaim.holds_of_wide 5 Tryd.f5 rfl rfl rfl rfl rfl rfl rfl ⟨rfl, rfl, rfl, rfl, rfl⟩ rfl rfl rfl rfl rfl (by kernel_rfl) Tryd.func5 (by kernel_rfl)
    (of_decide_eq_true (by kernel_rfl)) (by unfold Func.isWrapper; first | (rw [if_pos (by decide +kernel)]; kernel_rfl) | (rw [if_neg (by decide +kernel)]; exact ⟨rfl, rfl⟩))
    (fun os started H enc _ => lifted os started H enc)
theorem proved : Rows.ScriptSpoiltCardSaid :=
  Claim7.holds_tied_plain_at .later [] [.data,  .data,  .data,  .sentinel,  .sentinel,  .listed,  .data] true (true, "e89d853fee68bfd27a5ab23ac7dab88ae55057e6a8acaef9c32ed2a6e7d2b760") true
    over (fun _ h => by cases h) (by kernel_rfl) (fun _ h => by cases h) scriptSpoilt_row_tie rfl ⟨rfl, rfl⟩ (by kernel_rfl) rfl
    (fun f fn hf hfn => by
      obtain rfl : f = 5 := Option.some.inj ((show Tryd.prog.funcNamed "signalbox/signalboxlaw33.ScriptSpoilt" = some 5 by kernel_rfl).symm.trans hf) |>.symm
      obtain rfl : fn = Tryd.f5 := (Option.some.inj (Tryd.func5.symm.trans hfn)).symm
      exact ⟨by kernel_rfl, fun j t ht => by
        rw [Tryd.params5] at ht
        have hm : t ∈ [26, 3, 9, 4] := by simpa using Array.mem_of_getElem? ht
        have hall : ([26, 3, 9, 4].all fun u => !Tryd.prog.wantsStandIn u) = true := by kernel_rfl
        exact (show Tryd.prog.wantsStandIn t = false by simpa using List.all_eq_true.1 hall t hm)⟩)
    (by kernel_rfl)
end Go.Proofs.YthdeoeokjmmnbaaDoor.scriptSpoilt
namespace Go.Proofs.YthdeoeokjmmnbaaDoor
/-- The card, under a short name, for the claim. -/
theorem scriptSpoilt_holds : Rows.ScriptSpoiltCardSaid := scriptSpoilt.proved
#print axioms scriptSpoilt_holds
end Go.Proofs.YthdeoeokjmmnbaaDoor

