/-
  The clean machine, part T: what a call does that is known to end well by itself; the way from a clean run to a law's walk.
-/
import Derived.Test.YtmppoknfekdbbaaDoorCmXS
import Derived.Below
namespace Go.Proofs.YtmppoknfekdbbaaDoor.Cm
open Go.RowKit

/-- What stood stays as it was. -/
theorem Inv.later {K : Ctx} {ι : Emb} {h : Heap} {w w' : World} (H : Inv K ι h w) (k : Keeps (fun b => b < w.heap.size) w w') : Inv K ι h w' := by
  refine ⟨H.hF, ⟨k.os.trans H.keep.os, k.tape.trans H.keep.tape, k.output.trans H.keep.output, Nat.le_trans H.keep.size k.size, fun b hb => ?_⟩, H.glob, fun i o hi => ?_, H.excl, H.fresh, fun i b β e hb => Nat.lt_of_lt_of_le (H.inb i b β e hb) k.size, H.hG, H.hid, H.nev, H.nul⟩
  · rw [k.block b (Nat.lt_of_lt_of_le (H.hF b hb) H.keep.size)]; exact H.keep.block b hb
  · exact (H.obj i o hi).mono (Emb.le.refl _) fun b β e hb => k.block b (H.inb i b β e hb)

/-- The context of a run that may turn nothing that stands. -/
def Ctx.all (w : World) (glb : Gl) : Ctx := { w₀ := w, F := fun b => b < w.heap.size, glb := glb, G := fun _ => False, N := fun _ => False, U := fun _ => False }

def Emb.globs (glb : Nat) : Emb := fun i => if i < glb then some (i, 0, 0) else none

def Heap.empty (glb : Nat) : Heap := ⟨glb, .nil⟩

theorem Heap.get_empty (glb i : Nat) : (Heap.empty glb).get i = none := Tr.get_nil i

theorem Inv.start {w : World} {glb : Gl} (hg : glb.n ≤ w.heap.size) (hf : ∀ w', Keeps (fun b => b < w.heap.size) w w' → glb.fact w') : Inv (Ctx.all w glb) (Emb.globs glb.n) (Heap.empty glb.n) w := by
  refine ⟨fun _ h => h, ⟨rfl, rfl, rfl, Nat.le_refl _, fun _ _ => rfl⟩, fun g h => by simp [Emb.globs, show g < glb.n from h], fun i o h => by rw [Heap.get_empty] at h; simp at h, fun i j oi oj b β e b' β' e' _ h => by rw [Heap.get_empty] at h; simp at h,
    fun i h => ⟨by simp [Emb.globs, show ¬ i < glb.n from Nat.not_lt.2 h], Heap.get_empty _ _⟩, fun i b β e h => ?_, ⟨fun _ h => h.elim, hf⟩, fun i o b β e h => by rw [Heap.get_empty] at h; simp at h, fun _ h => h.elim, fun _ h => h.elim⟩
  unfold Emb.globs at h
  split at h
  · simp at h; omega
  · simp at h

/-- What is known of the package variables. -/
theorem Inv.fact {K : Ctx} {ι : Emb} {h : Heap} {w : World} (H : Inv K ι h w) : K.glb.fact w := H.hG.2 w H.keep
theorem Inv.fact_all {K : Ctx} {ι : Emb} {h : Heap} {w : World} (H : Inv K ι h w) : ∀ w', Keeps (fun b => b < w.heap.size) w w' → K.glb.fact w' := fun _ k => H.hG.2 _ (Keeps.over H.keep k fun b hb => Nat.lt_of_lt_of_le (H.hF b hb) H.keep.size)

/-- A run without arguments over nothing but itself: it answers the same wherever it is made. -/
def closedP (v : CVal) : List CVal → Heap → Option (CVal × Heap)
  | [], h => some (v, h)
  | _ :: _, _ => none

theorem closed_ok {P : Program} {glb : Gl} {call : CallFn} (hc : CallOk P glb call) {f : FuncId} {b : Bool} {h₁ : Heap} (e : call f [] (Heap.empty glb.n) = some (.bool b, h₁)) : PrimOk P glb f (closedP (.bool b)) := by
  refine ⟨hc.body _ _ _ _ e, fun K ι h w args args' v h' hk H R ev => ?_⟩
  cases args with
  | cons => simp [closedP] at ev
  | nil =>
    simp only [closedP, Option.some.injEq, Prod.mk.injEq] at ev
    obtain ⟨rfl, rfl⟩ := ev
    subst hk
    have hg : K.glb.n ≤ w.heap.size := by
      rcases Nat.eq_zero_or_pos K.glb.n with h0 | hpos
      · omega
      · have h1 := H.glob (K.glb.n - 1) (by omega)
        have := H.inb _ _ _ _ h1
        omega
    have ha : VRs (Emb.globs K.glb.n) [] args'.toList := by
      cases hq : args'.toList with
      | nil => exact .nil
      | cons x xs => rw [hq] at R; cases R
    refine (hc.calls (Ctx.all w K.glb) (Emb.globs K.glb.n) (Heap.empty K.glb.n) w f [] args' (.bool b) h₁ rfl (Inv.start hg (H.fact_all)) ha e).mono ?_
    rintro e' w' ⟨ι', v', _, rfl, H', hv⟩
    cases hv
    exact ⟨ι, .bool b, Emb.le.refl _, rfl, H.later H'.keep, .bool b⟩

/-- From a clean run to a law's walk. -/
theorem law_walk {P : Program} {glb : Gl} {call : CallFn} (hc : CallOk P glb call) {f : FuncId} {args : List CVal} {args' : Array Value} {h h₁ : Heap} {w : World} {ι : Emb} (H : Inv (Ctx.all w glb) ι h w) (R : VRs ι args args'.toList)
    (e : call f args h = some (.bool true, h₁)) : Calls P f args' w fun e w' => e = .returned (.bool true) ∧ Below w.heap.size w w' := by
  refine (hc.calls _ ι h w f args args' (.bool true) h₁ rfl H R e).mono ?_
  rintro e' w' ⟨ι', v', _, rfl, H', hv⟩
  cases hv
  refine ⟨rfl, ?_⟩
  have k := H'.keep
  exact ⟨k.os, k.tape, k.output, k.size, fun b hb => k.block b hb⟩

/-- The table with what is known of some functions. -/
def Tab.with (T : Tab) (f : FuncId) (p : List CVal → Heap → Option (CVal × Heap)) : Tab := { T with prim := fun g => if g == f then some p else T.prim g }

theorem TabOk.with {P : Program} {glb : Gl} {T : Tab} (h : TabOk P glb T) {f : FuncId} {p : List CVal → Heap → Option (CVal × Heap)} (hp : PrimOk P glb f p) : TabOk P glb (T.with f p) := by
  refine ⟨h.code, fun g q e => ?_⟩
  simp only [Tab.with] at e
  split at e
  · next hg => simp only [Option.some.injEq] at e; subst e; simp at hg; subst hg; exact hp
  · exact h.prim g q e

end Go.Proofs.YtmppoknfekdbbaaDoor.Cm
