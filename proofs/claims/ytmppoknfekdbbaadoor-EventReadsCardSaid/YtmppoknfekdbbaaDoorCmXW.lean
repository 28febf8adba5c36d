/-
  The clean machine, part W: what a text must meet, as a proposition that 'simp' works out.
-/
import Derived.Test.YtmppoknfekdbbaaDoorCmXV
namespace Go.Proofs.YtmppoknfekdbbaaDoor.Cm
open Go.RowKit

/-- By a guard: A where the operation is wanted, B where not. -/
def guardP (a : List CVal) (g : Option (Nat × Bool)) (A B : Prop) : Prop := match g with
  | none => A
  | some (t, w) => match a.getD t .undef with
    | .bool b => (b = w → A) ∧ (b ≠ w → B)
    | .tuple [] => B
    | _ => False

def resP (T : Tab) (K : CVal → List (FuncId × List CVal) → Heap → Prop) : Option (CRes × Heap) → Prop
  | none => False
  | some (.val v, h) => K v [] h
  | some (.enter f args, h) => Cal T f args h fun v h' => K v [] h'
  | some (.defer f args, h) => K .un [(f, args)] h

def stepP (T : Tab) (o : COper) (a : Fr) (h : Heap) (K : Fr → Heap → Prop) : Prop :=
  guardP a.tmps o.guard (resP T (fun v ds h' => K (a.done o.dst v ds) h') (cop o.op a.tmps h)) (K (a.done o.dst .un []) h)

def wpo (T : Tab) : List COper → Fr → Heap → (Fr → Heap → Prop) → Prop
  | [], a, h, K => K a h
  | o :: os, a, h, K => stepP T o a h fun a' h' => wpo T os a' h' K

def condP (v : CVal) (A B : Prop) : Prop := match v with
  | .bool b => (b = true → A) ∧ (b = false → B)
  | _ => False

def wpc (T : Tab) : CCode → Fr → Heap → (CExit → Fr → Heap → Prop) → Prop
  | .skip, a, h, Q => Q .normal a h
  | .exit id, a, h, Q => Q (.exit id) a h
  | .ret, a, h, Q => Q .ret a h
  | .goto l, a, h, Q => Q (.goto l) a h
  | .region os, a, h, Q => wpo T os a h (Q .normal)
  | .seq x y, a, h, Q => wpc T x a h (thenQ (fun a' h' => wpc T y a' h' Q) Q)
  | .cond c x y, a, h, Q => condP (c.ev a.tmps) (wpc T x a h Q) (wpc T y a h Q)
  | .block id x, a, h, Q => wpc T x a h (blockQ id Q)
  | c, a, h, Q => WP T c a h Q

theorem wantC_of {a : List CVal} {g : Option (Nat × Bool)} {A B : Prop} (k : guardP a g A B) : (wantC a g = some true ∧ A) ∨ (wantC a g = some false ∧ B) := by
  unfold guardP at k
  split at k
  · exact .inl ⟨rfl, k⟩
  · next t w =>
    split at k
    · next b hb =>
      by_cases e : b = w
      · exact .inl ⟨by simp only [wantC, hb, e, beq_self_eq_true], k.1 e⟩
      · exact .inr ⟨by simp only [wantC, hb]; simp [e], k.2 e⟩
    · next hb => exact .inr ⟨by simp only [wantC, hb], k⟩
    · exact k.elim

theorem wpo_sound {T : Tab} {K : Fr → Heap → Prop} : ∀ {os : List COper} {a : Fr} {h : Heap}, wpo T os a h K → WPO T os a h K
  | [], _, _, k => WPO.nil k
  | o :: os, a, h, k => by
    simp only [wpo, stepP] at k
    rcases wantC_of k with ⟨hw, k⟩ | ⟨hw, k⟩
    · cases hc : cop o.op a.tmps h with
      | none => rw [hc] at k; exact k.elim
      | some r =>
        obtain ⟨r, h'⟩ := r
        rw [hc] at k
        cases r with
        | val v => exact WPO.op (v := v) (ds := []) (h' := h') (by simp only [evOp1, hw, hc]) (wpo_sound k)
        | enter f args =>
          obtain ⟨m, v, h'', ec, k⟩ := k
          obtain ⟨n, a₁, h₁, ev, q⟩ := wpo_sound k
          refine ⟨max n m, a₁, h₁, ?_, q⟩
          have hn : n ≤ max n m := Nat.le_max_left _ _
          have hm : m ≤ max n m := Nat.le_max_right _ _
          simp only [evOps, evOper, evOp1, hw, hc]
          rw [callF_mono T hm _ _ _ _ ec]
          exact evOps_mono (callF_mono T hn) ev
        | defer f args => exact WPO.op (v := .un) (ds := [(f, args)]) (h' := h') (by simp only [evOp1, hw, hc]) (wpo_sound k)
    · exact WPO.op (v := .un) (ds := []) (h' := h) (by simp only [evOp1, hw]) (wpo_sound k)

theorem wpc_sound {T : Tab} : ∀ (c : CCode) {a : Fr} {h : Heap} {Q : CExit → Fr → Heap → Prop}, wpc T c a h Q → WP T c a h Q
  | .skip, _, _, _, k => WP.skip k
  | .exit _, _, _, _, k => WP.exit k
  | .ret, _, _, _, k => WP.ret k
  | .goto _, _, _, _, k => WP.goto k
  | .region _, _, _, _, k => WP.region (wpo_sound k)
  | .seq x y, a, h, Q, k => by
    refine WP.seq ((wpc_sound x k).mono ?_)
    intro e a' h' q
    cases e with
    | normal => exact wpc_sound y q
    | _ => exact q
  | .cond c x y, a, h, Q, k => by
    simp only [wpc, condP] at k
    split at k
    · next b hb => exact WP.cond hb (fun e => wpc_sound x (k.1 e)) (fun e => wpc_sound y (k.2 e))
    · exact k.elim
  | .block _ x, _, _, _, k => WP.block (wpc_sound x k)
  | .loop _, _, _, _, k => k
  | .draw _ _, _, _, _, k => k
  | .wipe _, _, _, _, k => k
  | .scope _ _, _, _, _, k => k

/-- What a function's end must meet. -/
def endQ (results : List CRV) (Q : CVal → Heap → Prop) : CExit → Fr → Heap → Prop
  | .normal, a, h | .ret, a, h => a.defers = [] ∧ ∃ vs, resultsC a.tmps h results = some vs ∧ Q (packC vs) h
  | _, _, _ => False

theorem Cal.text {T : Tab} {f : FuncId} {fn : CFunc} {args : List CVal} {h : Heap} {Q : CVal → Heap → Prop} (hp : T.prim f = none) (hf : T.code f = some fn) (k : wpc T fn.code (frame₀ fn args) h (endQ fn.results Q)) : Cal T f args h Q :=
  Cal.code hp hf ((wpc_sound _ k).mono fun x a' h' q => by
    cases x with
    | normal => exact ⟨.inl rfl, q⟩
    | ret => exact ⟨.inr rfl, q⟩
    | _ => exact q.elim)

def argsE (args : List CVal) : Env := fun s => args.getD s .un
theorem frame_env (fn : CFunc) (args : List CVal) (h : args.length ≤ fn.ntmps) : frame₀ fn args = ⟨envL fn.ntmps (argsE args), []⟩ := by
  unfold frame₀
  congr 1
  refine List.ext_getElem (by simp [envL]; omega) fun j h1 h2 => ?_
  simp only [envL, List.getElem_map, List.getElem_range, argsE, List.getElem_append, List.getElem_replicate]
  split
  · next hlt => simp [hlt]
  · next hge => simp [List.getD, List.getElem?_eq_none (Nat.le_of_not_lt hge)]

end Go.Proofs.YtmppoknfekdbbaaDoor.Cm
