/-
  The clean machine, part U: more fuel tells the same; runs without a word of fuel.
-/
import Derived.Test.YtmppoknfekdbbaaDoorCmXT
namespace Go.Proofs.YtmppoknfekdbbaaDoor.Cm
open Go.RowKit

def CallLe (c c' : CallFn) : Prop := ∀ f args h r, c f args h = some r → c' f args h = some r

section
variable {c c' : CallFn}

theorem evOp1_mono (hc : CallLe c c') {o : COper} {a : List CVal} {h : Heap} {r : CVal × List (FuncId × List CVal) × Heap} (e : evOp1 c o a h = some r) : evOp1 c' o a h = some r := by
  unfold evOp1 at *
  split at e
  · simp at e
  · next hw => exact e
  · next hw =>
    try simp only [hw]
    split at e
    · simp at e
    · next hq => (try simp only [hq]); exact e
    · next f args h' hq =>
      try simp only [hq]
      split at e
      · next v h'' hcall => rw [hc _ _ _ _ hcall]; exact e
      · simp at e
    · next hq => (try simp only [hq]); exact e

theorem evOper_mono (hc : CallLe c c') {o : COper} {a : Fr} {h : Heap} {r : Fr × Heap} (e : evOper c o a h = some r) : evOper c' o a h = some r := by
  unfold evOper at *
  split at e
  · next h1 => rw [evOp1_mono hc h1]; exact e
  · simp at e

theorem evOps_mono (hc : CallLe c c') : ∀ {os : List COper} {a : Fr} {h : Heap} {r : Fr × Heap}, evOps c os a h = some r → evOps c' os a h = some r
  | [], _, _, _, e => e
  | o :: os, a, h, r, e => by
    simp only [evOps] at *
    split at e
    · next h1 => rw [evOper_mono hc h1]; exact evOps_mono hc e
    · simp at e

theorem stepD_mono (hc : CallLe c c') {base : Nat} {it : DIt} {a : Fr} {h : Heap} {r : Fr × Heap} (e : stepD c base it a h = some r) : stepD c' base it a h = some r := by
  unfold stepD at *
  split at e
  · next hk => (try simp only [hk]); exact e
  · next hk => (try simp only [hk]); exact e
  · next hk => (try simp only [hk]); exact evOper_mono hc e

theorem evD_mono (hc : CallLe c c') {base : Nat} : ∀ {its : List DIt} {a : Fr} {h : Heap} {r : Fr × Heap × List (Fr × Heap)}, evD c base its a h = some r → evD c' base its a h = some r
  | [], _, _, _, e => e
  | it :: its, a, h, r, e => by
    simp only [evD] at *
    split at e
    · next h1 =>
      rw [stepD_mono hc h1]
      simp only
      split at e
      · next h2 => rw [evD_mono hc h2]; exact e
      · simp at e
    · simp at e

theorem evCode_mono (hc : CallLe c c') : ∀ {n n' : Nat} {k : CCode} {a : Fr} {h : Heap} {r : CExit × Fr × Heap}, n ≤ n' → evCode c n k a h = some r → evCode c' n' k a h = some r
  | 0, _, _, _, _, _, _, e => by simp [evCode] at e
  | n + 1, 0, _, _, _, _, hn, _ => by omega
  | n + 1, n' + 1, k, a, h, r, hn, e => by
    have hn : n ≤ n' := by omega
    cases k with
    | skip => exact e
    | exit id => exact e
    | ret => exact e
    | goto l => exact e
    | wipe ts => exact e
    | region ops =>
      simp only [evCode] at *
      split at e
      · next h1 => rw [evOps_mono hc h1]; exact e
      · simp at e
    | draw its k =>
      simp only [evCode] at *
      split at e
      · next h1 => rw [evD_mono hc h1]; exact e
      · simp at e
    | seq x y =>
      simp only [evCode] at *
      cases h1 : evCode c n x a h with
      | none => simp [h1] at e
      | some q =>
        rw [evCode_mono hc hn h1]
        rw [h1] at e
        obtain ⟨z, a', h'⟩ := q
        cases z <;> first | exact evCode_mono hc hn e | exact e
    | cond x y z =>
      simp only [evCode] at *
      split at e
      · exact evCode_mono hc hn e
      · exact evCode_mono hc hn e
      · simp at e
    | block id b =>
      simp only [evCode] at *
      cases h1 : evCode c n b a h with
      | none => simp [h1] at e
      | some q =>
        rw [evCode_mono hc hn h1]
        rw [h1] at e
        exact e
    | loop b =>
      simp only [evCode] at *
      cases h1 : evCode c n b a h with
      | none => simp [h1] at e
      | some q =>
        rw [evCode_mono hc hn h1]
        rw [h1] at e
        obtain ⟨z, a', h'⟩ := q
        cases z <;> first | exact evCode_mono hc hn e | exact e
    | scope b rests =>
      simp only [evCode] at *
      cases h1 : evCode c n b a h with
      | none => simp [h1] at e
      | some q =>
        rw [evCode_mono hc hn h1]
        rw [h1] at e
        obtain ⟨z, a', h'⟩ := q
        cases z with
        | goto l =>
          simp only at e ⊢
          split at e
          · exact evCode_mono hc hn e
          · simp at e
        | _ => exact e

theorem runDefers_mono (hc : CallLe c c') : ∀ {ds : List (FuncId × List CVal)} {h h' : Heap}, runDefers c ds h = some h' → runDefers c' ds h = some h'
  | [], _, _, e => e
  | (f, args) :: ds, h, h', e => by
    simp only [runDefers] at *
    split at e
    · next h1 => rw [hc _ _ _ _ h1]; exact runDefers_mono hc e
    · simp at e

theorem evBody_mono {d d' : CallFn} (hc : CallLe c c') (hd : CallLe d d') {n n' : Nat} (hn : n ≤ n') {fn : CFunc} {args : List CVal} {h : Heap} {r : CVal × Heap} (e : evBody c d n fn args h = some r) : evBody c' d' n' fn args h = some r := by
  unfold evBody at *
  split at e
  · simp at e
  · simp at e
  · next x a h' hx hx' h1 =>
    rw [evCode_mono hc hn h1]
    split at e
    · next h2 =>
      cases x with
      | exit id => exact (hx _ rfl).elim
      | goto id => exact (hx' _ rfl).elim
      | normal => simp only [runDefers_mono hd h2]; exact e
      | ret => simp only [runDefers_mono hd h2]; exact e
    · simp at e
  · simp at e

theorem evBodyD_mono (hc : CallLe c c') {n n' : Nat} (hn : n ≤ n') {fn : CFunc} {args : List CVal} {h : Heap} {r : CVal × Heap} (e : evBodyD c n fn args h = some r) : evBodyD c' n' fn args h = some r := by
  unfold evBodyD at *
  split at e
  · simp at e
  · simp at e
  · next x a h' hx hx' h1 =>
    rw [evCode_mono hc hn h1]
    cases x with
    | exit id => exact (hx _ rfl).elim
    | goto id => exact (hx' _ rfl).elim
    | normal => exact e
    | ret => exact e
  · simp at e
end

theorem callF_succ (T : Tab) : ∀ n, CallLe (callF T n) (callF T (n + 1))
  | 0 => fun f args h r e => by simp [callF] at e
  | n + 1 => fun f args h r e => by
    have ih := callF_succ T n
    rw [callF] at e ⊢
    split at e
    · next p hp => (try simp only [hp]); exact e
    · next hp =>
      try simp only [hp]
      split at e
      · next fn hf =>
        try simp only [hf]
        refine evBody_mono ih ?_ (Nat.le_succ n) e
        intro g as h r e
        simp only at e ⊢
        split at e
        · next gn hg => exact evBodyD_mono ih (Nat.le_succ n) e
        · simp at e
      · simp at e

theorem callF_mono (T : Tab) {n m : Nat} (h : n ≤ m) : CallLe (callF T n) (callF T m) := by
  induction h with
  | refl => exact fun _ _ _ _ e => e
  | step _ ih => exact fun f args h r e => callF_succ T _ f args h r (ih f args h r e)

/-- The call ends so. -/
def Cal (T : Tab) (f : FuncId) (args : List CVal) (h : Heap) (Q : CVal → Heap → Prop) : Prop := ∃ n v h', callF T n f args h = some (v, h') ∧ Q v h'

/-- The text ends so. -/
def WP (T : Tab) (c : CCode) (a : Fr) (h : Heap) (Q : CExit → Fr → Heap → Prop) : Prop := ∃ n x a' h', evCode (callF T n) n c a h = some (x, a', h') ∧ Q x a' h'

theorem Cal.mono {T : Tab} {f : FuncId} {args : List CVal} {h : Heap} {Q Q' : CVal → Heap → Prop} (k : Cal T f args h Q) (hq : ∀ v h', Q v h' → Q' v h') : Cal T f args h Q' :=
  let ⟨n, v, h', e, q⟩ := k; ⟨n, v, h', e, hq _ _ q⟩

theorem WP.mono {T : Tab} {c : CCode} {a : Fr} {h : Heap} {Q Q' : CExit → Fr → Heap → Prop} (k : WP T c a h Q) (hq : ∀ x a' h', Q x a' h' → Q' x a' h') : WP T c a h Q' :=
  let ⟨n, x, a', h', e, q⟩ := k; ⟨n, x, a', h', e, hq _ _ _ q⟩

end Go.Proofs.YtmppoknfekdbbaaDoor.Cm
