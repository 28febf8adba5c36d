/-
  InstrReads answers true for every input, and each argument reads as it did; the listed package variables are tied to the program's text. No conditions beside the card's own.
-/
import Derived.Test.YtaipbioapbgcnaaDoorRows
import Derived.Test.YtaipbioapbgcnaaDoorTie
import Derived.Test.YtaipbioapbgcnaaDoorCards
import Derived.Test.YtaipbioapbgcnaaDoorCmIK
import Derived.Test.YtaipbioapbgcnaaDoorCmIE
import Derived.WalkKit
import Derived.ProofKit
import Derived.OpenShut
import Derived.ShutString
import Derived.ChangeOld
import Derived.Below
import Derived.SizedLaws
import Derived.LaidMore
import Derived.Stop.Joined
import Derived.SevenTiedAt
import Derived.Carry
import Derived.Lay
import Derived.MakeChecks
namespace Go.Proofs.YtaipbioapbgcnaaDoor.instrReads
open Go.ChangeShapes Go.WideShapes Go.ChangeAt Go.WideMaps Go.WideElems Go.RowKit
open Go.ChangeMaps (open_string shut_string)
theorem own : ownKnob Tryd.prog.godebug = none := by kernel_rfl
abbrev laid := Rows.instrReadsRow.laid
theorem walk (W : World) (L : laidMetH Tryd.prog laid W) (S : W.ShapedOpen Tryd.prog) (s0 : ByteArray) (_w0 : s0.size ≤ maxLen) : Calls Tryd.prog 6 #[.string s0] W fun e W' => e = .returned (.bool true) ∧ Below W.heap.size W W' := by
  obtain ⟨fuel, v, h', e, hv⟩ := Cm.reads_cal (s := s0.data.toList) Cm.Tabs.start
  subst hv
  exact Cm.law_walk (Cm.callF_ok Cm.tt_ok fuel) (Cm.start_in L S) (.cons _ _ _ _ (.str _) .nil) e
set_option maxRecDepth 100000 in
theorem lifted (os : Os) (started : os.Started) (H : Type) (enc : TypeId × Value → H) :
    ReturnsInHanded {} Tryd.checked os 6 .any (fun w args => (Rows.instrReadsSpec.pre enc Tryd.prog Tryd.f6 [] false w args ∧ laidMetH Tryd.prog laid w) ∧ sizedMet enc Tryd.prog Tryd.f6 (OpenSpec.ofChange Rows.instrReadsSpec) false w args)
      (Rows.instrReadsSpec.post enc Tryd.prog Tryd.f6 false true false false) := by
  refine returnsInHanded_of_calls (C := Tryd.checked) own started (by kernel_rfl)
    (ChangeSpec.witness_shaped (enc := enc) (C := Tryd.checked) (os := os) (X := fun w _ => laidMetH Tryd.prog laid w) false (World.laidAll Tryd.prog os laid) #[.string ByteArray.empty] 8 (World.laidAll_os _ _ _) (World.shaped_of_ZipB (by kernel_rfl) (by kernel_rfl)) (by kernel_rfl) (by kernel_rfl) (by kernel_rfl) (by rw [MakeChecks.laidMetH_plain _ _ _ (by kernel_rfl)]; exact laidMet_laidAll _ (by kernel_rfl) (by kernel_rfl))) ?_
  intro w tape i _ hsh _ hok hpre hholds
  obtain ⟨_, _, _, fn', hfn', _, _, _, _, hval1⟩ := hok
  have efn : fn' = Tryd.f6 := Option.some.inj (hfn'.symm.trans Tryd.func6)
  subst efn
  obtain ⟨⟨⟨ds, gs, before, hw1, _⟩, hL0⟩, _⟩ := hpre
  have hw1' := DataW.Whole.of_heap (w' := w.forCall tape i) (by rfl) hw1
  have hL1 := laidMetH.of_heap (w' := w.forCall tape i) (by rfl) hL0
  clear hw1 hL0 hholds
  generalize hWW : w.forCall tape i = W at *
  obtain ⟨iv, args, ir⟩ := i
  simp only at *
  suffices hh : Calls Tryd.checked.prog 6 args W fun e W' => ∃ v, e = .returned v ∧ Rows.instrReadsSpec.post enc Tryd.prog Tryd.f6 false true false false W args v W' by exact hh.mono fun e W' ⟨v, he, hp⟩ => by subst he; exact ChangeSpec.post_blind hp
  have hval0 := hval1
  have hW := hw1'
  have hL := hL1
  have hval : ∀ (j : Nat) t v, Tryd.f6.params[j]? = some t → args[j]? = some v → Value.okWide Tryd.prog W .any _ t v := hval0
  have hW' := hW
  obtain ⟨p, q, hA0, hV, rfl, hfz, hnd⟩ := hW
  have hA : DataW.TrodAll enc Tryd.prog W 0 (fun _ => true) true Tryd.f6.params.toList args.toList ds p := hA0
  rw [Tryd.params6] at hA hval
  obtain ⟨v0, vs0, d0, ds0, p0, q0, hargs, rfl, rfl, h0, r0⟩ := trodAll_cons hA
  obtain ⟨rfl, rfl, rfl⟩ := trodAll_nil r0
  obtain rfl : args = #[v0] := by cases args; simp_all
  obtain ⟨rfl, rfl⟩ := trodVars_none hV
  obtain ⟨s0, rfl, rfl, rfl, w0⟩ := open_string Tryd.underlying9 (hval 0 9 v0 rfl rfl) h0
  clear hA0 hval0
  refine (walk W hL hsh s0 w0).mono fun e W' ⟨he, bel⟩ => ?_
  subst he
  exact ⟨_, rfl, _, _, _, [], _, [], hW', trodAll_mk1 (shut_bool Tryd.underlying4 _), (trodAll_cons_mk (shut_string Tryd.underlying9 w0) trodAll_mk0), rfl, bel.frame _, fun h => by cases h⟩
theorem over : Rows.instrReadsRow.holds Tryd.pinned (OpenSpec.ofChange Rows.instrReadsSpec) :=
  OpenClaim.holds_of_wide 6 Tryd.f6 rfl rfl rfl rfl rfl rfl rfl ⟨rfl, rfl, rfl, rfl, rfl⟩ rfl rfl rfl rfl rfl (by kernel_rfl) Tryd.func6 (by kernel_rfl)
    (of_decide_eq_true (by kernel_rfl)) (by unfold Func.isWrapper; first | (rw [if_pos (by decide +kernel)]; kernel_rfl) | (rw [if_neg (by decide +kernel)]; exact ⟨rfl, rfl⟩))
    (fun os started H enc _ => lifted os started H enc)
theorem proved : Rows.InstrReadsCardSaid :=
  Claim7.holds_tied_plain_at .later [] [.data, .data, .data, .data, .sentinel, .sentinel, .data, .data, .data, .data, .pinned] true (true, "4d8a66c674cd1b984e348cf1866d070c98eb3b584cd5535741141b31c0a80791") true
    over (fun _ h => by cases h) (by kernel_rfl) (fun _ h => by cases h) instrReads_row_tie rfl ⟨rfl, rfl⟩ (by kernel_rfl) rfl
    (fun f fn hf hfn => by
      obtain rfl : f = 6 := Option.some.inj ((show Tryd.prog.funcNamed "signalbox/signalboxlaw5.InstrReads" = some 6 by kernel_rfl).symm.trans hf) |>.symm
      obtain rfl : fn = Tryd.f6 := (Option.some.inj (Tryd.func6.symm.trans hfn)).symm
      exact ⟨by kernel_rfl, fun j t ht => by
        rw [Tryd.params6] at ht
        have hm : t ∈ [9] := by simpa using Array.mem_of_getElem? ht
        have hall : ([9].all fun u => !Tryd.prog.wantsStandIn u) = true := by kernel_rfl
        exact (show Tryd.prog.wantsStandIn t = false by simpa using List.all_eq_true.1 hall t hm)⟩)
    (by kernel_rfl)
end Go.Proofs.YtaipbioapbgcnaaDoor.instrReads
namespace Go.Proofs.YtaipbioapbgcnaaDoor
/-- The card, under a short name, for the claim. -/
theorem instrReads_holds : Rows.InstrReadsCardSaid := instrReads.proved
#print axioms instrReads_holds
end Go.Proofs.YtaipbioapbgcnaaDoor

