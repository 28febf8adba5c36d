/-
  The clean machine, part YG: strings.Join as known from its contract.
-/
import Derived.Test.YtmppoknfekdbbaaDoorCmYF
import Derived.Lib.Join
import Derived.Below
namespace Go.Proofs.YtmppoknfekdbbaaDoor.Cm
open Go.RowKit

def strsC : List CVal → Option (List (List UInt8))
  | [] => some []
  | .str s :: vs => match strsC vs with
    | some xs => some (s :: xs)
    | none => none
  | _ :: _ => none
theorem strsC_get : ∀ {vs : List CVal} {xs : List (List UInt8)}, strsC vs = some xs → xs.length = vs.length ∧ ∀ (j : Nat) (s : List UInt8), xs[j]? = some s → vs[j]? = some (CVal.str s)
  | [], xs, e => by simp only [strsC, Option.some.injEq] at e; subst e; exact ⟨rfl, fun j s h => by simp at h⟩
  | v :: vs, xs, e => by
    cases v with
    | str s =>
      simp only [strsC] at e
      split at e
      · next ys hy =>
        simp only [Option.some.injEq] at e; subst e
        obtain ⟨h1, h2⟩ := strsC_get hy
        refine ⟨by simp [h1], fun j t h => ?_⟩
        cases j with
        | zero => simpa using h
        | succ j => simpa using h2 j t (by simpa using h)
      · simp at e
    | _ => simp [strsC] at e

theorem VR.slice_inv {ι : Emb} {i o l c : Nat} {v : Value} (r : VR ι (.slice i o l c) v) : ∃ b β e a, v = .slice (some a) l (c + e) ∧ ι i = some (b, β, e) ∧ (a = ⟨b, β + o, none⟩ ∨ c + e = 0) ∧ l ≤ c := by
  generalize hq : CVal.slice i o l c = q at r
  cases r with
  | slice i' o' l' c' b β e a h1 h2 h3 => simp only [CVal.slice.injEq] at hq; obtain ⟨rfl, rfl, rfl, rfl⟩ := hq; exact ⟨b, β, e, a, rfl, h1, h2, h3⟩
  | _ => simp at hq
theorem VR.str_inv {ι : Emb} {s : List UInt8} {v : Value} (r : VR ι (.str s) v) : ∃ S : ByteArray, s = S.data.toList ∧ v = .string S := by
  generalize hq : CVal.str s = q at r
  cases r with
  | str S => simp only [CVal.str.injEq] at hq; exact ⟨S, hq, rfl⟩
  | _ => simp at hq

/-- Strings, joined. -/
def joinP : List CVal → Heap → Option (CVal × Heap)
  | [.nilSlice, .str _], h => some (.str [], h)
  | [.slice i o l _, .str s], h =>
    if l = 0 then some (.str [], h) else
    match h.get i with
    | some (.cells vs _ _) => match strsC ((vs.drop o).take l) with
      | some xs => if xs.length = l ∧ l ≤ 140737488355328 ∧ (Lib.join xs s).length ≤ 140737488355328 then some (.str (Lib.join xs s), h) else none
      | none => none
    | _ => none
  | _, _ => none

theorem keeps_of_below {w w' : World} (b : Below w.heap.size w w') : Keeps (fun b => b < w.heap.size) w w' := ⟨b.os, b.tape, b.output, b.size, b.block⟩

theorem join_ok {P : Program} {glb : Gl} {f : FuncId} (hb : HasBody P f)
    (C0 : ∀ (a : Option Addr) (c : Nat) (sep : ByteArray) (w : World), Calls P f #[.slice a 0 c, .string sep] w fun e w' => e = .returned (.string ⟨#[]⟩) ∧ w' = w)
    (C1 : ∀ (bk o c : Nat) (xs : List ByteArray) (sep : ByteArray) (w : World), (∀ (j : Nat) x, xs[j]? = some x → w.cell? ⟨bk, o + j, none⟩ = some (.string x)) → bk < w.heap.size → xs.length ≤ 140737488355328 → xs.length ≤ c →
      (Lib.join (xs.map (·.data.toList)) sep.data.toList).length ≤ 140737488355328 → Calls P f #[.slice (some ⟨bk, o, none⟩) xs.length c, .string sep] w fun e w' => e = .returned (.string ⟨(Lib.join (xs.map (·.data.toList)) sep.data.toList).toArray⟩) ∧ Below w.heap.size w w') :
    PrimOk P glb f joinP := by
  refine ⟨hb, fun K ι h w args args' v h' hk H R ev => ?_⟩
  obtain ⟨l'⟩ := args'
  simp only at R
  -- none
  have none0 : ∀ (a : Option Addr) (c : Nat) (S : ByteArray), Calls P f #[.slice a 0 c, .string S] w fun e w' => ∃ ι' v', ι.le ι' ∧ e = .returned v' ∧ Inv K ι' h w' ∧ VR ι' (.str []) v' := fun a c S =>
    (C0 a c S w).mono fun e w' ⟨he, hw⟩ => by subst hw; exact ⟨ι, _, Emb.le.refl _, he, H, .str ⟨#[]⟩⟩
  unfold joinP at ev
  split at ev
  · simp only [Option.some.injEq, Prod.mk.injEq] at ev
    obtain ⟨rfl, rfl⟩ := ev
    cases R with
    | cons _ _ x' r' r1 r2 =>
      cases r2 with
      | cons _ _ y' r'' r3 r4 =>
        cases r4; cases r1; cases r3
        exact none0 _ _ _
  · next i o l c s =>
    cases R with
    | cons _ _ x' r' r1 r2 =>
      cases r2 with
      | cons _ _ y' r'' r3 r4 =>
        cases r4
        obtain ⟨b, β, e, a, rfl, h1, h2, h3⟩ := r1.slice_inv
        obtain ⟨S, rfl, rfl⟩ := r3.str_inv
        by_cases h0 : l = 0
        · subst h0
          simp only [if_true, Option.some.injEq, Prod.mk.injEq] at ev
          obtain ⟨rfl, rfl⟩ := ev
          exact none0 _ _ _
        · simp only [if_neg h0] at ev
          split at ev
          · next vs wr opn hg =>
            split at ev
            · next xs hx =>
              split at ev
              · next hc =>
                simp only [Option.some.injEq, Prod.mk.injEq] at ev
                obtain ⟨rfl, rfl⟩ := ev
                obtain ⟨hlen, hl, hj⟩ := hc
                obtain ⟨b', β', e', C, el, lo, hi, g1, g2, g3, _⟩ := H.obj i _ hg
                rw [h1] at g1
                simp only [Option.some.injEq, Prod.mk.injEq] at g1
                obtain ⟨rfl, rfl, rfl⟩ := g1
                have ha : a = ⟨b, β + o, none⟩ := by
                  rcases h2 with h2 | h2
                  · exact h2
                  · omega
                subst ha
                obtain ⟨_, hget⟩ := strsC_get hx
                have em : (xs.map fun l => (⟨l.toArray⟩ : ByteArray)).map (·.data.toList) = xs := by
                  rw [List.map_map]
                  exact (List.map_congr_left fun l _ => by simp).trans (List.map_id xs)
                have el' : (xs.map fun l => (⟨l.toArray⟩ : ByteArray)).length = l := by rw [List.length_map, hlen]
                have call := C1 b (β + o) (c + e) (xs.map fun l => ⟨l.toArray⟩) S w (fun j x hjx => by
                  rw [List.getElem?_map] at hjx
                  cases hq : xs[j]? with
                  | none => rw [hq] at hjx; simp at hjx
                  | some t =>
                    rw [hq] at hjx
                    simp only [Option.map_some, Option.some.injEq] at hjx
                    subst hjx
                    have hv := hget j t hq
                    have hjl : j < l := by have := (List.getElem?_eq_some_iff.1 hq).1; omega
                    rw [List.getElem?_take, if_pos hjl, List.getElem?_drop] at hv
                    obtain ⟨_, v', c1, c2⟩ := g3 (o + j) _ hv
                    have : w.cell? ⟨b, β + o + j, none⟩ = some v' := by
                      simp only [World.cell?, g2]
                      rw [Nat.add_assoc]; simpa using c1
                    rw [this]
                    obtain ⟨S2, rfl, rfl⟩ := c2.str_inv
                    rfl) (Array.getElem?_eq_some_iff.1 g2).1 (by rw [el']; exact hl) (by rw [el']; omega) (by rw [em]; exact hj)
                rw [em, el'] at call
                refine call.mono fun e' w' ⟨he, hbel⟩ => ⟨ι, _, Emb.le.refl _, he, H.later (keeps_of_below hbel), ?_⟩
                have := VR.str (ι := ι) ⟨(Lib.join xs S.data.toList).toArray⟩
                simpa using this
              · simp at ev
            · simp at ev
          · simp at ev
  · simp at ev
end Go.Proofs.YtmppoknfekdbbaaDoor.Cm
