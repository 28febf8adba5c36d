/-
  The clean machine, part YE: package variables of plain cells, laid into the clean heap; a closed run over them.
-/
import Derived.Test.YtmppoknfekdbbaaDoorCmYC
namespace Go.Proofs.YtmppoknfekdbbaaDoor.Cm
open Go.RowKit

/-- Plain: it points nowhere. -/
def CVal.plain : CVal → Bool
  | .bool _ | .int .. | .str _ | .nilPtr | .nilSlice | .nilMap | .nilFunc | .nilIface => true
  | _ => false
theorem VR.plain {ι ι' : Emb} {v : CVal} {v' : Value} (r : VR ι v v') (h : v.plain = true) : VR ι' v v' := by
  cases r with
  | bool => exact .bool _
  | int => exact .int _ _
  | str => exact .str _
  | nilPtr => exact .nilPtr
  | nilSlice => exact .nilSlice
  | nilMap => exact .nilMap
  | nilFunc => exact .nilFunc
  | nilIface => exact .nilIface
  | _ => simp [CVal.plain] at h

section
variable {K : Ctx} {ι : Emb} {h : Heap} {w : World}

/-- A package variable's cells, to be read. -/
theorem Inv.glo (H : Inv K ι h w) (ro : Ro h) {g : Nat} (hg : g < K.glb.n) (hn : K.glb.n ≤ h.next) {cs : List CVal} {C : Array Value} {el : TypeId} {fz : Nat × Nat} (hb : w.heap[g]? = some (.cells C el fz)) (hc : CellsR ι cs C 0) (hG : ¬ K.G g) (hN : ¬ K.N g) :
    Inv K ι (h.set g (.cells cs false none)) w := by
  have hi : ι g = some (g, 0, 0) := H.glob g hg
  have ro' : Ro (h.set g (.cells cs false none)) := by
    intro i o e
    rw [Heap.get_set] at e
    split at e
    · simp only [Option.some.injEq] at e; subst e; rfl
    · exact ro i o e
  refine ⟨H.hF, H.keep, H.glob, fun i o e => ?_, fun i j oi oj b β e b' β' e' _ hi' _ hw _ _ => ?_, fun i hi' => ?_, H.inb, H.hG, fun i o b β e hi' hb' => ?_, fun i hi' => ?_, H.nul⟩
  · rw [Heap.get_set] at e
    split at e
    · next hig =>
      subst hig
      simp only [Option.some.injEq] at e; subst e
      obtain ⟨lo, hi'⟩ := fz
      exact ⟨i, 0, 0, C, el, lo, hi', hi, hb, hc, fun _ => rfl, fun hw => by simp at hw⟩
    · exact H.obj i o e
  · rw [ro' i oi hi'] at hw; simp at hw
  · have hne : i ≠ g := by rw [Heap.next_set] at hi'; omega
    rw [Heap.get_set_ne _ _ _ _ hne]
    exact H.fresh i hi'
  · by_cases hne : i = g
    · subst hne
      rw [hi] at hb'
      simp only [Option.some.injEq, Prod.mk.injEq] at hb'
      rw [← hb'.1]; exact hG
    · rw [Heap.get_set_ne _ _ _ _ hne] at hi'
      exact H.hid i o b β e hi' hb'
  · obtain ⟨h1, h2⟩ := H.nev i hi'
    have hne : i ≠ g := fun e => hN (by rw [← e]; exact hi')
    exact ⟨h1, by rw [Heap.get_set_ne _ _ _ _ hne]; exact h2⟩

/-- The heap that holds some package variables, and nothing else. -/
def globHeap (glb : Nat) : List (Nat × List CVal) → Heap
  | [] => Heap.empty glb
  | x :: xs => (globHeap glb xs).set x.1 (.cells x.2 false none)

theorem globHeap_next (glb : Nat) : ∀ xs, (globHeap glb xs).next = glb
  | [] => rfl
  | x :: xs => by rw [globHeap, Heap.next_set, globHeap_next glb xs]
theorem globHeap_ro (glb : Nat) : ∀ xs, Ro (globHeap glb xs)
  | [] => ro_empty glb
  | x :: xs => fun i o e => by
    rw [globHeap, Heap.get_set] at e
    split at e
    · simp only [Option.some.injEq] at e; subst e; rfl
    · exact globHeap_ro glb xs i o e

/-- What the listed package variables hold in a world. -/
def GlobsIn (w : World) (glb : Nat) (xs : List (Nat × List CVal)) : Prop := ∀ x ∈ xs, x.1 < glb ∧ x.2.all CVal.plain = true ∧ ∃ C el fz, w.heap[x.1]? = some (.cells C el fz) ∧ CellsR (Emb.globs glb) x.2 C 0

theorem Inv.globs {glb : Gl} (hsz : glb.n ≤ w.heap.size) (hf : ∀ w', Keeps (fun b => b < w.heap.size) w w' → glb.fact w') : ∀ {xs : List (Nat × List CVal)}, GlobsIn w glb.n xs → Inv (Ctx.all w glb) (Emb.globs glb.n) (globHeap glb.n xs) w
  | [], _ => Inv.start hsz hf
  | x :: xs, hx => by
    obtain ⟨h1, _, C, el, fz, hb, hc⟩ := hx x (List.mem_cons_self ..)
    exact (Inv.globs hsz hf fun y hy => hx y (List.mem_cons_of_mem _ hy)).glo (globHeap_ro glb.n xs) h1 (by rw [globHeap_next]; exact Nat.le_refl _) hb hc (fun h => h) (fun h => h)

/-- The heap holds the listed variables. -/
def HasGlobs (h : Heap) (xs : List (Nat × List CVal)) : Prop := ∀ x ∈ xs, h.get x.1 = some (.cells x.2 false none)

theorem HasGlobs.inW (H : Inv K ι h w) {xs : List (Nat × List CVal)} (hx : HasGlobs h xs) (hp : ∀ x ∈ xs, x.1 < K.glb.n ∧ x.2.all CVal.plain = true) : GlobsIn w K.glb.n xs := by
  intro x hm
  obtain ⟨h1, h2⟩ := hp x hm
  obtain ⟨b, β, e, C, el, lo, hi, e1, e2, e3, _⟩ := H.obj _ _ (hx x hm)
  rw [H.glob _ h1] at e1
  simp only [Option.some.injEq, Prod.mk.injEq] at e1
  obtain ⟨rfl, rfl, _⟩ := e1
  refine ⟨h1, h2, C, el, _, e2, fun j v hv => ?_⟩
  obtain ⟨o, v', c, r⟩ := e3 j v hv
  exact ⟨o, v', c, r.plain (List.all_eq_true.1 h2 v (List.mem_of_getElem? hv))⟩

open Classical in
/-- A run without arguments over nothing but the listed variables. -/
noncomputable def closedG (xs : List (Nat × List CVal)) (v : CVal) : List CVal → Heap → Option (CVal × Heap)
  | [], h => if HasGlobs h xs then some (v, h) else none
  | _ :: _, _ => none

theorem closedG_ok {P : Program} {glb : Gl} {call : CallFn} (hc : CallOk P glb call) {f : FuncId} {b : Bool} {h₁ : Heap} {xs : List (Nat × List CVal)} (hp : ∀ x ∈ xs, x.1 < glb.n ∧ x.2.all CVal.plain = true) (e : call f [] (globHeap glb.n xs) = some (.bool b, h₁)) : PrimOk P glb f (closedG xs (.bool b)) := by
  refine ⟨hc.body _ _ _ _ e, fun K ι h w args args' v h' hk H R ev => ?_⟩
  cases args with
  | cons => simp [closedG] at ev
  | nil =>
    simp only [closedG] at ev
    split at ev
    · next hx =>
      simp only [Option.some.injEq, Prod.mk.injEq] at ev
      obtain ⟨rfl, rfl⟩ := ev
      subst hk
      have hg : K.glb.n ≤ w.heap.size := by
        rcases Nat.eq_zero_or_pos K.glb.n with h0 | hpos
        · omega
        · have h1 := H.glob (K.glb.n - 1) (by omega)
          have := H.inb _ _ _ _ h1
          omega
      have ha : VRs (Emb.globs K.glb.n) [] args'.toList := by
        cases hq : args'.toList with
        | nil => exact .nil
        | cons x xs => rw [hq] at R; cases R
      refine (hc.calls (Ctx.all w K.glb) (Emb.globs K.glb.n) (globHeap K.glb.n xs) w f [] args' (.bool b) h₁ rfl (Inv.globs hg H.fact_all (hx.inW H hp)) ha e).mono ?_
      rintro e' w' ⟨ι', v', _, rfl, H', hv⟩
      cases hv
      exact ⟨ι, .bool b, Emb.le.refl _, rfl, H.later H'.keep, .bool b⟩
    · simp at ev
end
end Go.Proofs.YtmppoknfekdbbaaDoor.Cm
