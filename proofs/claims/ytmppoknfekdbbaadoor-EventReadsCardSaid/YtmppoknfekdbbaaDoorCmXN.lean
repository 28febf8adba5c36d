/-
  The clean machine, part N: code, and calls.
-/
import Derived.Test.YtmppoknfekdbbaaDoorCmXM
import Derived.Orders
import Derived.Defers
import Derived.Scope
namespace Go.Proofs.YtmppoknfekdbbaaDoor.Cm
open Go.RowKit

def DR (ι : Emb) (x : FuncId × List CVal) (d : Deferred) : Prop := ∃ cap : Array Value, d.target = .fn (.func x.1) cap ∧ VRs ι x.2 (d.args ++ cap).toList

def DRs (ι : Emb) : List (FuncId × List CVal) → List Deferred → Prop
  | [], [] => True
  | x :: xs, d :: ds => DR ι x d ∧ DRs ι xs ds
  | _, _ => False

theorem DRs.mono {ι ι' : Emb} (hι : ι.le ι') : ∀ {xs : List (FuncId × List CVal)} {ds : List Deferred}, DRs ι xs ds → DRs ι' xs ds
  | [], [], _ => trivial
  | _ :: _, _ :: _, ⟨⟨cap, h1, h2⟩, k⟩ => ⟨⟨cap, h1, h2.mono hι⟩, DRs.mono hι k⟩
  | [], _ :: _, h => h.elim
  | _ :: _, [], h => h.elim

/-- A frame's slots and what it has deferred. -/
structure FrR (ι : Emb) (a : Fr) (A : Act) : Prop where
  tmps : VRs ι a.tmps A.tmps.toList
  defers : DRs ι a.defers A.defers

theorem FrR.mono {ι ι' : Emb} {a : Fr} {A : Act} (hι : ι.le ι') (h : FrR ι a A) : FrR ι' a A := ⟨h.tmps.mono hι, h.defers.mono hι⟩

theorem FrR.put {ι : Emb} {a : Fr} {A : Act} (h : FrR ι a A) {v : CVal} {v' : Value} (hv : VR ι v v') (d : Option Nat) : FrR ι (a.put d v) (A.put d v') := by
  cases d with
  | none => exact h
  | some d => exact ⟨by simpa [Fr.put, Act.put] using h.tmps.set hv d, h.defers⟩

theorem VR.un (ι : Emb) : VR ι .un Go.undef := .tuple [] #[] .nil

/-- What a call may be taken to do. -/
structure CallOk (P : Program) (glb : Gl) (call : CallFn) : Prop where
  body : ∀ f args h r, call f args h = some r → HasBody P f
  calls : ∀ (K : Ctx) (ι : Emb) (h : Heap) (w : World) (f : FuncId) (args : List CVal) (args' : Array Value) (v : CVal) (h' : Heap), K.glb = glb → Inv K ι h w → VRs ι args args'.toList →
    call f args h = some (v, h') → Calls P f args' w fun e w' => ∃ ι' v', ι.le ι' ∧ e = .returned v' ∧ Inv K ι' h' w' ∧ VR ι' v v'

/-- The same of a deferred call. -/
structure CalldOk (P : Program) (glb : Gl) (call : CallFn) : Prop where
  body : ∀ f args h r, call f args h = some r → HasBody P f
  calls : ∀ (K : Ctx) (ι : Emb) (h : Heap) (w : World) (f : FuncId) (args : List CVal) (args' : Array Value) (v : CVal) (h' : Heap), K.glb = glb → Inv K ι h w → VRs ι args args'.toList →
    call f args h = some (v, h') → ∀ u, CallsD P f args' u w fun e u' w' => u' = u ∧ ∃ ι' v', ι.le ι' ∧ e = .returned v' ∧ Inv K ι' h' w'

structure CoperR (P : Program) (glb : Gl) (ops : Array Oper) (o : Oper) (c : COper) : Prop where
  dst : c.dst = o.dst
  good : Good P glb o c.op
  guard : match o.guard, c.guard with
    | none, none => True
    | some (j, want), some (t, want') => want = want' ∧ (ops[j]?).bind (·.dst) = some t
    | _, _ => False

section
variable {P : Program} {glb : Gl} {call : CallFn}

/-- The slots that an operation looks at. -/
def COper.looks (c : COper) (o : Oper) (t : Nat) : Prop := Operand.tmp t ∈ o.op.operands.toList ∨ ∃ b, c.guard = some (t, b)

theorem wanted_sim {ops : Array Oper} {o : Oper} {c : COper} (R : CoperR P glb ops o c) {ι : Emb} {a : List CVal} {A : Act} (F : ∀ t, c.looks o t → TmpR ι a A t) {b : Bool} (e : wantC a c.guard = some b) :
    Region.wanted o (yielded ops A.tmps) = b := by
  have hg := R.guard
  unfold Region.wanted
  cases ho : o.guard with
  | none =>
    rw [ho] at hg
    cases hc : c.guard with
    | none => rw [hc] at e; simpa [wantC] using e
    | some x => rw [hc] at hg; exact hg.elim
  | some p =>
    obtain ⟨j, want⟩ := p
    rw [ho] at hg
    cases hc : c.guard with
    | none => rw [hc] at hg; exact hg.elim
    | some q =>
      obtain ⟨t, want'⟩ := q
      have Ft := F t (.inr ⟨want', hc⟩)
      rw [hc] at hg e
      obtain ⟨rfl, hd⟩ := hg
      simp only [wantC] at e
      unfold TmpR at Ft
      generalize a.getD t .undef = v at Ft e
      simp only [yielded, hd, Option.bind_some]
      rw [Array.getD_eq_getD_getElem?] at Ft
      cases ht : A.tmps[t]? with
      | none =>
        rw [ht] at Ft
        simp only [Option.getD_none] at Ft
        split at e
        · next b' => cases Ft
        · simpa using e
        · simp at e
      | some v' =>
        rw [ht] at Ft
        simp only [Option.getD_some] at Ft
        split at e
        · next b' => cases Ft; simpa using e
        · cases Ft with
          | tuple _ cs' R' => simpa using e
        · simp at e

/-- The operation in the frame whose slots are A's. -/
theorem oper_sim₁ (hc : CallOk P glb call) {ops : Array Oper} {o : Oper} {c : COper} (R : CoperR P glb ops o c) {a : List CVal} {h h' : Heap} {v : CVal} {ds : List (FuncId × List CVal)} (e : evOp1 call c a h = some (v, ds, h'))
    {K : Ctx} (hk : K.glb = glb) {ι : Emb} {A : Act} {w : World} (H : Inv K ι h w) (F : ∀ t, c.looks o t → TmpR ι a A t) {N : Act → World → Prop} {Q : Exit → Act → World → Prop}
    (next : ∀ ι' v' ds' w', ι.le ι' → Inv K ι' h' w' → VR ι' v v' → DRs ι' ds ds' → N ({ A with defers := ds' ++ A.defers }.put c.dst v') w') {i : Nat} (hi : ops[i]? = some o) : wpOp P ops Q i N A w := by
  unfold evOp1 at e
  simp only [wpOp, hi]
  split at e
  · simp at e
  · next hw =>
    simp only [wanted_sim R F hw, Bool.false_eq_true, if_false]
    simp only [Option.some.injEq, Prod.mk.injEq] at e
    obtain ⟨rfl, rfl, rfl⟩ := e
    rw [← R.dst]
    exact next ι _ [] w (Emb.le.refl _) H (VR.un ι) trivial
  · next hw =>
    simp only [wanted_sim R F hw, if_true]
    refine .inl ?_
    have good := R.good.sound K ι h w a A hk H (fun t ht => F t (.inl ht))
    split at e
    · simp at e
    · next v h₁ hcop =>
      simp only [Option.some.injEq, Prod.mk.injEq] at e
      obtain ⟨rfl, rfl, rfl⟩ := e
      obtain ⟨ι', w', n, hle, hrun, H', hn⟩ := good _ _ hcop (fun g args hh => by simp at hh)
      simp only [Oper.wp, hrun]
      cases n <;> simp only [NR] at hn <;> first | exact hn.elim | skip
      · simp only [Oper.upon, ← R.dst]; exact next ι' _ [] w' hle H' hn trivial
      · simp only [Oper.upon, ← R.dst]; exact next ι' _ [] w' hle H' hn trivial
    · next f args h₁ hcop =>
      split at e
      · next v h₂ hcall =>
        simp only [Option.some.injEq, Prod.mk.injEq] at e
        obtain ⟨rfl, rfl, rfl⟩ := e
        have hbody : ∀ g as, CRes.enter f args = .enter g as → HasBody P g := by
          intro g as hh
          cases hh
          exact hc.body _ _ _ _ hcall
        obtain ⟨ι', w', n, hle, hrun, H', hn⟩ := good _ _ hcop hbody
        simp only [Oper.wp, hrun]
        cases n <;> simp only [NR] at hn <;> first | exact hn.elim | skip
        obtain ⟨rfl, hn⟩ := hn
        simp only [Oper.upon]
        refine (hc.calls K ι' h₁ w' _ args _ v h₂ hk H' hn hcall).mono ?_
        rintro e w'' ⟨ι'', v', hle', rfl, H'', hv⟩
        simp only [← R.dst]
        exact next ι'' _ [] w'' (hle.trans hle') H'' hv trivial
      · simp at e
    · next f args h₁ hcop =>
      simp only [Option.some.injEq, Prod.mk.injEq] at e
      obtain ⟨rfl, rfl, rfl⟩ := e
      obtain ⟨ι', w', n, hle, hrun, H', hn⟩ := good _ _ hcop (fun g args hh => by simp at hh)
      simp only [Oper.wp, hrun]
      cases n <;> simp only [NR] at hn <;> first | exact hn.elim | skip
      simp only [Oper.upon, ← R.dst]
      exact next ι' _ [_] w' hle H' (VR.un ι') ⟨hn, trivial⟩

theorem DRs.append {ι : Emb} : ∀ {xs ys : List (FuncId × List CVal)} {ds es : List Deferred}, DRs ι xs ds → DRs ι ys es → DRs ι (xs ++ ys) (ds ++ es)
  | [], _, [], _, _, k => k
  | _ :: _, _, _ :: _, _, ⟨h, h'⟩, k => ⟨h, DRs.append h' k⟩
  | [], _, _ :: _, _, h, _ => h.elim
  | _ :: _, _, [], _, h, _ => h.elim

theorem oper_sim (hc : CallOk P glb call) {ops : Array Oper} {o : Oper} {c : COper} (R : CoperR P glb ops o c) {a a' : Fr} {h h' : Heap} (e : evOper call c a h = some (a', h'))
    {K : Ctx} (hk : K.glb = glb) {ι : Emb} {A : Act} {w : World} (H : Inv K ι h w) (F : FrR ι a A) {N : Act → World → Prop} {Q : Exit → Act → World → Prop}
    (next : ∀ ι' A' w', ι.le ι' → Inv K ι' h' w' → FrR ι' a' A' → N A' w') {i : Nat} (hi : ops[i]? = some o) : wpOp P ops Q i N A w := by
  unfold evOper at e
  split at e
  · next v ds h₁ he =>
    simp only [Option.some.injEq, Prod.mk.injEq] at e
    obtain ⟨rfl, rfl⟩ := e
    refine oper_sim₁ hc R he hk H (fun t _ => F.tmps.tmp t) (fun ι' v' ds' w' hle H' hv hds => next ι' _ w' hle H' ?_) hi
    have F' := F.mono hle
    exact FrR.put (a := { a with defers := ds ++ a.defers }) (A := { A with defers := ds' ++ A.defers }) ⟨F'.tmps, hds.append F'.defers⟩ hv _
  · simp at e
end

section
variable {P : Program} {glb : Gl} {call : CallFn}
/-! ### Code -/

def ER : CExit → Exit → Prop
  | .normal, .normal => True
  | .exit id, .exit id' => id = id'
  | .ret, .ret => True
  | .goto l, .goto l' => l = l'
  | _, _ => False

def Post (K : Ctx) (ι : Emb) (x : CExit) (a : Fr) (h : Heap) (e : Exit) (A : Act) (w : World) : Prop :=
  ER x e ∧ ∃ ι', ι.le ι' ∧ Inv K ι' h w ∧ FrR ι' a A

/-- A clean text stands for the model's. -/
def Sim (P : Program) (glb : Gl) (code : Code) (c : CCode) : Prop :=
  ∀ (call : CallFn), CallOk P glb call → ∀ (n : Nat) (a : Fr) (h : Heap) (x : CExit) (a' : Fr) (h' : Heap), evCode call n c a h = some (x, a', h') →
    ∀ (K : Ctx) (ι : Emb) (A : Act) (w : World), K.glb = glb → Inv K ι h w → FrR ι a A → code.wp P (Post K ι x a' h') A w

theorem Post.mono {K : Ctx} {ι ι₀ : Emb} {x : CExit} {a : Fr} {h : Heap} (hle : ι₀.le ι) {e : Exit} {A : Act} {w : World} : Post K ι x a h e A w → Post K ι₀ x a h e A w :=
  fun ⟨h1, ι', h2, h3⟩ => ⟨h1, ι', hle.trans h2, h3⟩

theorem Sim.skip : Sim P glb .skip .skip := by
  intro call hc n a h x a' h' e K ι A w hk H F
  cases n with
  | zero => simp [evCode] at e
  | succ n =>
    simp only [evCode, Option.some.injEq, Prod.mk.injEq] at e; obtain ⟨rfl, rfl, rfl⟩ := e
    exact wp_skip ⟨trivial, ι, Emb.le.refl _, H, F⟩

theorem Sim.label {l : Nat} : Sim P glb (.label l) .skip := by
  intro call hc n a h x a' h' e K ι A w hk H F
  cases n with
  | zero => simp [evCode] at e
  | succ n =>
    simp only [evCode, Option.some.injEq, Prod.mk.injEq] at e; obtain ⟨rfl, rfl, rfl⟩ := e
    exact wp_label ⟨trivial, ι, Emb.le.refl _, H, F⟩

theorem Sim.exit {id : Nat} : Sim P glb (.exit id) (.exit id) := by
  intro call hc n a h x a' h' e K ι A w hk H F
  cases n with
  | zero => simp [evCode] at e
  | succ n =>
    simp only [evCode, Option.some.injEq, Prod.mk.injEq] at e; obtain ⟨rfl, rfl, rfl⟩ := e
    exact wp_exit ⟨rfl, ι, Emb.le.refl _, H, F⟩

theorem Sim.ret : Sim P glb .ret .ret := by
  intro call hc n a h x a' h' e K ι A w hk H F
  cases n with
  | zero => simp [evCode] at e
  | succ n =>
    simp only [evCode, Option.some.injEq, Prod.mk.injEq] at e; obtain ⟨rfl, rfl, rfl⟩ := e
    exact wp_ret ⟨trivial, ι, Emb.le.refl _, H, F⟩

theorem Sim.seq {p q : Code} {c d : CCode} (hp : Sim P glb p c) (hq : Sim P glb q d) : Sim P glb (.seq p q) (.seq c d) := by
  intro call hc n a h x a' h' e K ι A w hk H F
  cases n with
  | zero => simp [evCode] at e
  | succ n =>
    simp only [evCode] at e
    cases h1 : evCode call n c a h with
    | none => simp [h1] at e
    | some r =>
      obtain ⟨y, a₁, h₁⟩ := r
      have s1 := hp call hc n a h y a₁ h₁ h1 K ι A w hk H F
      refine wp_seq (wp_mono s1 ?_)
      rintro e₁ A₁ w₁ ⟨hER, ι₁, hle, H₁, F₁⟩
      cases y with
      | normal =>
        simp only [h1] at e
        cases e₁ <;> simp only [ER] at hER
        exact wp_mono (hq call hc n a₁ h₁ x a' h' e K ι₁ A₁ w₁ hk H₁ F₁) fun _ _ _ => Post.mono hle
      | exit id =>
        simp only [h1, Option.some.injEq, Prod.mk.injEq] at e; obtain ⟨rfl, rfl, rfl⟩ := e
        cases e₁ <;> simp only [ER] at hER
        exact ⟨hER, ι₁, hle, H₁, F₁⟩
      | ret =>
        simp only [h1, Option.some.injEq, Prod.mk.injEq] at e; obtain ⟨rfl, rfl, rfl⟩ := e
        cases e₁ <;> simp only [ER] at hER
        exact ⟨trivial, ι₁, hle, H₁, F₁⟩
      | goto l =>
        simp only [h1, Option.some.injEq, Prod.mk.injEq] at e; obtain ⟨rfl, rfl, rfl⟩ := e
        cases e₁ <;> simp only [ER] at hER
        exact ⟨hER, ι₁, hle, H₁, F₁⟩

theorem Sim.cond {X : Operand} {x : CX} (hX : compG glb X = some x) {p q : Code} {c d : CCode} (hp : Sim P glb p c) (hq : Sim P glb q d) : Sim P glb (.cond X p q) (.cond x c d) := by
  intro call hc n a h y a' h' e K ι A w hk H F
  cases n with
  | zero => simp [evCode] at e
  | succ n =>
    simp only [evCode] at e
    have hv := compG_ev (a := a.tmps) (A := A) H hk hX (fun t _ => F.tmps.tmp t)
    split at e
    · next he =>
      rw [he] at hv
      generalize hq : A.eval X = v at hv
      cases hv
      exact wp_cond_true hq (hp call hc n a h y a' h' e K ι A w hk H F)
    · next he =>
      rw [he] at hv
      generalize hq' : A.eval X = v at hv
      cases hv
      exact wp_cond_false hq' (hq call hc n a h y a' h' e K ι A w hk H F)
    · simp at e

theorem Sim.block {id : Nat} {p : Code} {c : CCode} (hp : Sim P glb p c) : Sim P glb (.block id p) (.block id c) := by
  intro call hc n a h x a' h' e K ι A w hk H F
  cases n with
  | zero => simp [evCode] at e
  | succ n =>
    simp only [evCode] at e
    cases h1 : evCode call n c a h with
    | none => simp [h1] at e
    | some r =>
      obtain ⟨y, a₁, h₁⟩ := r
      refine wp_block (wp_mono (hp call hc n a h y a₁ h₁ h1 K ι A w hk H F) ?_)
      rintro e₁ A₁ w₁ ⟨hER, ι₁, hle, H₁, F₁⟩
      cases y with
      | normal =>
        simp only [h1, Option.some.injEq, Prod.mk.injEq] at e; obtain ⟨rfl, rfl, rfl⟩ := e
        cases e₁ <;> simp only [ER] at hER
        exact ⟨trivial, ι₁, hle, H₁, F₁⟩
      | ret =>
        simp only [h1, Option.some.injEq, Prod.mk.injEq] at e; obtain ⟨rfl, rfl, rfl⟩ := e
        cases e₁ <;> simp only [ER] at hER
        exact ⟨trivial, ι₁, hle, H₁, F₁⟩
      | goto l =>
        simp only [h1, Option.some.injEq, Prod.mk.injEq] at e; obtain ⟨rfl, rfl, rfl⟩ := e
        cases e₁ <;> simp only [ER] at hER
        exact ⟨hER, ι₁, hle, H₁, F₁⟩
      | exit id' =>
        cases e₁ <;> simp only [ER] at hER
        subst hER
        simp only [h1] at e
        by_cases hid : id' = id
        · simp only [hid, if_true, Option.some.injEq, Prod.mk.injEq] at e; obtain ⟨rfl, rfl, rfl⟩ := e
          simp only [Exit.inBlock, hid, if_true]
          exact ⟨trivial, ι₁, hle, H₁, F₁⟩
        · simp only [hid, if_false, Option.some.injEq, Prod.mk.injEq] at e; obtain ⟨rfl, rfl, rfl⟩ := e
          simp only [Exit.inBlock, hid, if_false]
          exact ⟨rfl, ι₁, hle, H₁, F₁⟩

theorem Sim.loop {p : Code} {c : CCode} (hp : Sim P glb p c) : Sim P glb (.loop p) (.loop c) := by
  intro call hc n a h x a' h' e K ι A w hk H F b k cs
  have key : ∀ (n : Nat) (a : Fr) (h : Heap), evCode call n (.loop c) a h = some (x, a', h') → ∀ (ι : Emb) (A : Act) (w : World), Inv K ι h w → FrR ι a A →
      ∃ e A' w', Post K ι x a' h' e A' w' ∧ Arrives P (lone (b.at A (.code p :: .inLoop p :: k)) cs w) b k cs e A' w' := by
    intro n
    induction n with
    | zero => intro a h e; simp [evCode] at e
    | succ n ih =>
      intro a h e ι A w H F
      simp only [evCode] at e
      cases h1 : evCode call n c a h with
      | none => simp [h1] at e
      | some r =>
        obtain ⟨y, a₁, h₁⟩ := r
        obtain ⟨e₁, A₁, w₁, ⟨hER, ι₁, hle, H₁, F₁⟩, harr⟩ := hp call hc n a h y a₁ h₁ h1 K ι A w hk H F b (.inLoop p :: k) cs
        cases y with
        | normal =>
          simp only [h1] at e
          cases e₁ <;> simp only [ER] at hER
          obtain ⟨e₂, A₂, w₂, hq₂, harr₂⟩ := ih a₁ h₁ e ι₁ A₁ w₁ H₁ F₁
          exact ⟨e₂, A₂, w₂, hq₂.mono hle, .of_steps (Steps.trans harr (.one step_inLoop)) harr₂⟩
        | exit id =>
          simp only [h1, Option.some.injEq, Prod.mk.injEq] at e; obtain ⟨rfl, rfl, rfl⟩ := e
          refine ⟨e₁, A₁, w₁, ⟨hER, ι₁, hle, H₁, F₁⟩, ?_⟩
          cases e₁ <;> simp only [ER] at hER
          exact .pass (x := .inLoop p) rfl (fun _ _ => .inl (by simp)) harr
        | ret =>
          simp only [h1, Option.some.injEq, Prod.mk.injEq] at e; obtain ⟨rfl, rfl, rfl⟩ := e
          refine ⟨e₁, A₁, w₁, ⟨hER, ι₁, hle, H₁, F₁⟩, ?_⟩
          cases e₁ <;> simp only [ER] at hER
          exact .pass (x := .inLoop p) rfl (fun _ _ => .inl (by simp)) harr
        | goto l =>
          simp only [h1, Option.some.injEq, Prod.mk.injEq] at e; obtain ⟨rfl, rfl, rfl⟩ := e
          refine ⟨e₁, A₁, w₁, ⟨hER, ι₁, hle, H₁, F₁⟩, ?_⟩
          cases e₁ <;> simp only [ER] at hER
          exact .pass (x := .inLoop p) rfl (fun _ _ => .inl (by simp)) harr
  obtain ⟨e₁, A₁, w₁, hq, harr⟩ := key n a h e ι A w H F
  exact ⟨e₁, A₁, w₁, hq, .of_steps (.one step_loop) harr⟩

theorem FrR.wipe {ι : Emb} {A : Act} : ∀ (ts : List Nat) {a : Fr}, FrR ι a A → FrR ι (a.wipe ts) A
  | [], _, F => F
  | t :: ts, a, F => FrR.wipe ts ⟨by
      have := F.tmps
      refine VRs.of_get (by simpa using this.length) ?_
      intro j v v' hv hv'
      simp only [List.getElem?_set] at hv
      split at hv
      · split at hv
        · cases hv; exact .undef _
        · simp at hv
      · obtain ⟨v'', h1, h2⟩ := this.get j v hv
        rw [h1] at hv'; cases hv'; exact h2, F.defers⟩

/-- Slots may be forgotten. -/
theorem Sim.wipe {p : Code} {c : CCode} {ts : List Nat} (hp : Sim P glb p c) : Sim P glb p (.seq c (.wipe ts)) := by
  intro call hc n a h x a' h' e K ι A w hk H F
  cases n with
  | zero => simp [evCode] at e
  | succ n =>
    simp only [evCode] at e
    cases h1 : evCode call n c a h with
    | none => simp [h1] at e
    | some r =>
      obtain ⟨y, a₁, h₁⟩ := r
      refine wp_mono (hp call hc n a h y a₁ h₁ h1 K ι A w hk H F) ?_
      rintro e₁ A₁ w₁ ⟨hER, ι₁, hle, H₁, F₁⟩
      cases y with
      | normal =>
        simp only [h1] at e
        cases n with
        | zero => simp [evCode] at e
        | succ n =>
          simp only [evCode, Option.some.injEq, Prod.mk.injEq] at e; obtain ⟨rfl, rfl, rfl⟩ := e
          exact ⟨hER, ι₁, hle, H₁, F₁.wipe ts⟩
      | exit id =>
        simp only [h1, Option.some.injEq, Prod.mk.injEq] at e; obtain ⟨rfl, rfl, rfl⟩ := e
        exact ⟨hER, ι₁, hle, H₁, F₁⟩
      | ret =>
        simp only [h1, Option.some.injEq, Prod.mk.injEq] at e; obtain ⟨rfl, rfl, rfl⟩ := e
        exact ⟨hER, ι₁, hle, H₁, F₁⟩
      | goto l =>
        simp only [h1, Option.some.injEq, Prod.mk.injEq] at e; obtain ⟨rfl, rfl, rfl⟩ := e
        exact ⟨hER, ι₁, hle, H₁, F₁⟩

theorem Sim.goto {l : Nat} : Sim P glb (.goto l) (.goto l) := by
  intro call hc n a h x a' h' e K ι A w hk H F
  cases n with
  | zero => simp [evCode] at e
  | succ n =>
    simp only [evCode, Option.some.injEq, Prod.mk.injEq] at e; obtain ⟨rfl, rfl, rfl⟩ := e
    exact wp_goto ⟨rfl, ι, Emb.le.refl _, H, F⟩

/-- A scope, and what stands behind its labels. -/
theorem Sim.scope {p : Code} {c : CCode} {rests : List (Nat × CCode)} (hp : Sim P glb p c) (hr : ∀ l r, findRest l rests = some r → ∃ q, findLabel p l = some q ∧ Sim P glb q r) : Sim P glb (.scope p) (.scope c rests) := by
  intro call hc n a h x a' h' e K ι A w hk H F b k cs
  have key : ∀ (n : Nat) (q : Code) (r : CCode), Sim P glb q r → ∀ (a : Fr) (h : Heap), evCode call n (.scope r rests) a h = some (x, a', h') → ∀ (ι : Emb) (A : Act) (w : World), Inv K ι h w → FrR ι a A →
      ∃ e A' w', Post K ι x a' h' e A' w' ∧ Arrives P (lone (b.at A (.code q :: .inScope p :: k)) cs w) b k cs e A' w' := by
    intro n
    induction n with
    | zero => intro q r _ a h e; simp [evCode] at e
    | succ n ih =>
      intro q r hq a h e ι A w H F
      simp only [evCode] at e
      cases h1 : evCode call n r a h with
      | none => simp [h1] at e
      | some rr =>
        obtain ⟨y, a₁, h₁⟩ := rr
        obtain ⟨e₁, A₁, w₁, ⟨hER, ι₁, hle, H₁, F₁⟩, harr⟩ := hq call hc n a h y a₁ h₁ h1 K ι A w hk H F b (.inScope p :: k) cs
        cases y with
        | normal =>
          simp only [h1, Option.some.injEq, Prod.mk.injEq] at e; obtain ⟨rfl, rfl, rfl⟩ := e
          cases e₁ <;> simp only [ER] at hER
          exact ⟨.normal, A₁, w₁, ⟨trivial, ι₁, hle, H₁, F₁⟩, Steps.trans harr (.one step_inScope)⟩
        | exit id =>
          simp only [h1, Option.some.injEq, Prod.mk.injEq] at e; obtain ⟨rfl, rfl, rfl⟩ := e
          cases e₁ <;> simp only [ER] at hER
          exact ⟨.exit _, A₁, w₁, ⟨hER, ι₁, hle, H₁, F₁⟩, fun k' hk => harr k' (by simp [exitTo, hk])⟩
        | ret =>
          simp only [h1, Option.some.injEq, Prod.mk.injEq] at e; obtain ⟨rfl, rfl, rfl⟩ := e
          cases e₁ <;> simp only [ER] at hER
          exact ⟨.ret, A₁, w₁, ⟨trivial, ι₁, hle, H₁, F₁⟩, harr⟩
        | goto l =>
          simp only [h1] at e
          split at e
          · next r₂ hr₂ =>
            cases e₁ <;> simp only [ER] at hER
            subst hER
            obtain ⟨q₂, hf, hq₂⟩ := hr _ _ hr₂
            have hg : gotoIn l (.inScope p :: k) = some (.code q₂ :: .inScope p :: k) := by simp [gotoIn, hf]
            obtain ⟨e₂, A₂, w₂, hp₂, harr₂⟩ := ih q₂ r₂ hq₂ a₁ h₁ e ι₁ A₁ w₁ H₁ F₁
            exact ⟨e₂, A₂, w₂, hp₂.mono hle, .of_steps (harr _ hg) harr₂⟩
          · simp at e
  obtain ⟨e₁, A₁, w₁, hq, harr⟩ := key n p c hp a h e ι A w H F
  exact ⟨e₁, A₁, w₁, hq, .of_steps (.one step_scope) harr⟩

/-! ### Regions in the text's order -/

theorem ops_sim (hc : CallOk P glb call) {ops : Array Oper} {K : Ctx} (hk : K.glb = glb) {ι₀ : Emb} {a' : Fr} {h' : Heap} :
    ∀ (is : List Nat) (cs : List COper), (∀ (j : Nat) (c : COper), cs[j]? = some c → ∃ i o, is[j]? = some i ∧ ops[i]? = some o ∧ CoperR P glb ops o c) → is.length = cs.length →
    ∀ (a : Fr) (h : Heap), evOps call cs a h = some (a', h') → ∀ (ι : Emb) (A : Act) (w : World), ι₀.le ι → Inv K ι h w → FrR ι a A → wpOps P ops (Post K ι₀ .normal a' h') is A w
  | [], [], _, _ => fun a h e ι A w hle H F => by
    simp only [evOps, Option.some.injEq, Prod.mk.injEq] at e; obtain ⟨rfl, rfl⟩ := e
    exact ⟨trivial, ι, hle, H, F⟩
  | i :: is, c :: cs, hR, hl => fun a h e ι A w hle H F => by
    simp only [evOps] at e
    obtain ⟨i', o, h1, h2, R⟩ := hR 0 c rfl
    simp only [List.getElem?_cons_zero, Option.some.injEq] at h1
    subst h1
    split at e
    · next a₁ h₁ he =>
      rw [wpOps_cons]
      refine oper_sim hc R he hk H F (fun ι₁ A₁ w₁ hle₁ H₁ F₁ => ?_) h2
      exact ops_sim hc hk is cs (fun j c hj => by
        obtain ⟨i', o, h1, h2, R⟩ := hR (j + 1) c (by simpa using hj)
        exact ⟨i', o, by simpa using h1, h2, R⟩) (by simpa using hl) _ _ e _ _ _ (hle.trans hle₁) H₁ F₁
    · simp at e
  | [], _ :: _, _, hl => by simp at hl
  | _ :: _, [], _, hl => by simp at hl

/-- The operations, each with its clean one. -/
def OpersR (P : Program) (glb : Gl) (ops : Array Oper) (cs : List COper) : Prop :=
  cs.length = ops.size ∧ ∀ (j : Nat) (c : COper), cs[j]? = some c → ∃ o, ops[j]? = some o ∧ CoperR P glb ops o c

theorem Sim.region {id : Nat} {ops : Array Oper} {cs : List COper} (R : OpersR P glb ops cs) : Sim P glb (.region id ops false) (.region cs) := by
  intro call hc n a h x a' h' e K ι A w hk H F
  cases n with
  | zero => simp [evCode] at e
  | succ n =>
    simp only [evCode] at e
    split at e
    · next a₁ h₁ he =>
      simp only [Option.some.injEq, Prod.mk.injEq] at e; obtain ⟨rfl, rfl, rfl⟩ := e
      refine wp_region (ops_sim hc hk (List.range ops.size) cs (fun j c hj => ?_) (by simp [R.1]) _ _ he _ _ _ (Emb.le.refl _) H F)
      obtain ⟨o, h1, h2⟩ := R.2 j c hj
      have hlt : j < ops.size := (Array.getElem?_eq_some_iff.1 h1).1
      exact ⟨j, o, by simp [hlt], h1, h2⟩
    · simp at e

/-! ### Functions -/

def CRVR (P : Program) : ResultVar → CRV → Prop
  | .tmp t, .tmp t' => t = t'
  | .cell a ty, .cell a' agg n => a = a' ∧ tyAgg P ty = some agg ∧ tySize P ty = some n
  | _, _ => False

def resSem (tmps : Array Value) : ResultVar → Sem Value
  | .tmp t => pure (tmps.getD t undef)
  | .cell a t => do loadVar t (← asAddr (tmps.getD a undef))

theorem resC_sim {K : Ctx} {ι : Emb} {h : Heap} {w : World} (H : Inv K ι h w) {a : Fr} {A : Act} (F : FrR ι a A) {r : ResultVar} {c : CRV} (R : CRVR P r c) {v : CVal} (e : resC a.tmps h c = some v) :
    ∃ v', (resSem A.tmps r).run P w = .ok v' w ∧ VR ι v v' := by
  cases r with
  | tmp t =>
    cases c with
    | tmp t' =>
      obtain rfl : t = t' := R
      simp only [resC, Option.some.injEq] at e; subst e
      exact ⟨_, by simp [resSem], F.tmps.tmp t⟩
    | cell => exact R.elim
  | cell t ty =>
    cases c with
    | tmp => exact R.elim
    | cell t' agg n =>
      obtain ⟨rfl, hag, hn⟩ := R
      simp only [resC] at e
      split at e
      · next v₁ h₁ he =>
        simp only [Option.some.injEq] at e; subst e
        have hv : VR ι ((CX.t t).ev a.tmps) (A.tmps.getD t undef) := F.tmps.tmp t
        simp only [cop] at he
        split at he
        · next i off hev =>
          rw [hev] at hv
          generalize hX : A.tmps.getD t undef = X' at hv
          cases hv with
          | ptr _ _ b β ex hi =>
            split at he
            · next vs wr opn hget =>
              cases agg with
              | true =>
                simp at he
                obtain ⟨hl, rfl, rfl⟩ := he
                obtain ⟨us', hrun, R⟩ := H.loads (P := P) (n := n) hget rfl (by simpa using hl) hi
                have hrun : (loadCells ⟨b, β + off, none⟩ n).run P w = .ok us' w := hrun w.drawn
                refine ⟨.agg us', ?_, .agg _ _ R⟩
                simp [resSem, hX, asAddr, loadVar, tyAgg_run hag, tySize_run hn, hrun, Result.andThen]
              | false =>
                simp at he
                split at he
                · next v hv =>
                  simp at he; obtain ⟨rfl, rfl⟩ := he
                  obtain ⟨v', hc, hv'⟩ := H.load hget hv hi
                  refine ⟨v', ?_, hv'⟩
                  simp [resSem, hX, asAddr, loadVar, tyAgg_run hag, run_load hc, Result.andThen]
                · simp at he
            · simp at he
        · simp at he
      · simp at e

inductive CRVRs (P : Program) : List ResultVar → List CRV → Prop
  | nil : CRVRs P [] []
  | cons {r rs c cs} : CRVR P r c → CRVRs P rs cs → CRVRs P (r :: rs) (c :: cs)

theorem resultsC_sim {K : Ctx} {ι : Emb} {h : Heap} {w : World} (H : Inv K ι h w) {a : Fr} {A : Act} (F : FrR ι a A) : ∀ {rs : List ResultVar} {cs : List CRV}, CRVRs P rs cs → ∀ {vs : List CVal}, resultsC a.tmps h cs = some vs →
    ∃ vs', (rs.mapM (resSem A.tmps)).run P w = .ok vs' w ∧ VRs ι vs vs'
  | _, _, .nil, vs, e => by simp only [resultsC, Option.some.injEq] at e; subst e; exact ⟨[], by simp, .nil⟩
  | _, _, .cons R Rs, vs, e => by
    simp only [resultsC] at e
    split at e
    · next v vs₁ h1 h2 =>
      simp only [Option.some.injEq] at e; subst e
      obtain ⟨v', r1, q1⟩ := resC_sim H F R h1
      obtain ⟨vs', r2, q2⟩ := resultsC_sim H F Rs h2
      exact ⟨v' :: vs', by simp [r1, r2, Result.andThen], .cons _ _ _ _ q1 q2⟩
    · simp at e

theorem results_sim {K : Ctx} {ι : Emb} {h : Heap} {w : World} (H : Inv K ι h w) {a : Fr} {A : Act} (F : FrR ι a A) {fn : Func} {cs : List CRV} (R : CRVRs P fn.results.toList cs) {vs : List CVal} (e : resultsC a.tmps h cs = some vs) :
    ∃ v', (results fn A.tmps).run P w = .ok v' w ∧ VR ι (packC vs) v' := by
  obtain ⟨vs', r, q⟩ := resultsC_sim H F R e
  have hm : fn.results.mapM (resSem A.tmps) = List.toArray <$> fn.results.toList.mapM (resSem A.tmps) := Array.mapM_eq_mapM_toList
  have hr : results fn A.tmps = (do let vs ← fn.results.mapM (resSem A.tmps); pure (if h : vs.size = 1 then vs[0] else .tuple vs)) := rfl
  refine ⟨if h : vs'.toArray.size = 1 then vs'.toArray[0] else .tuple vs'.toArray, ?_, ?_⟩
  · rw [hr, hm]
    simp [r, Result.andThen]
  · cases q with
    | nil => exact .tuple _ _ .nil
    | cons v vs v' vs' q1 q2 =>
      cases q2 with
      | nil => simpa [packC] using q1
      | cons u us u' us' q3 q4 =>
        simp [packC]
        exact .tuple _ _ (.cons _ _ _ _ q1 (.cons _ _ _ _ q3 q4))

theorem frame_sim {ι : Emb} {fn : Func} {cf : CFunc} (hn : cf.ntmps = fn.ntmps) {args : List CVal} {args' : Array Value} (R : VRs ι args args'.toList) :
    FrR ι (frame₀ cf args) { tmps := args' ++ Array.replicate (fn.ntmps - args'.size) undef, defers := [] } := by
  refine ⟨?_, trivial⟩
  have hl := R.length
  simp only [Array.length_toList] at hl
  simp only [frame₀, Array.toList_append, Array.toList_replicate, hn, hl]
  refine R.append ?_
  generalize fn.ntmps - args'.size = k
  induction k with
  | zero => exact .nil
  | succ k ih => exact .cons _ _ _ _ (VR.un ι) ih

structure FuncR (P : Program) (glb : Gl) (f : FuncId) (cf : CFunc) : Prop where
  ex : ∃ fn code, P.funcs[f]? = some fn ∧ fn.body = some code ∧ (fn.name == "runtime.NumGoroutine") = false ∧ cf.ntmps = fn.ntmps ∧ CRVRs P fn.results.toList cf.results ∧ Sim P glb code cf.code

theorem FuncR.body {f : FuncId} {cf : CFunc} (R : FuncR P glb f cf) : HasBody P f := by
  obtain ⟨fn, code, h1, h2, h3, h4⟩ := R.ex
  exact ⟨fn, h1, by simp [h2], h3⟩

theorem leaves_sim {calld : CallFn} (hd : CalldOk P glb calld) {K : Ctx} (hk : K.glb = glb) {fn : Func} {ι₀ : Emb} {a : Fr} {A : Act} {cs : List CRV} (Rr : CRVRs P fn.results.toList cs) {h'' : Heap} {vs : List CVal}
    (er : resultsC a.tmps h'' cs = some vs) : ∀ (xs : List (FuncId × List CVal)) (ds : List Deferred) {ι : Emb} {h : Heap} {w : World}, ι₀.le ι → Inv K ι h w → VRs ι a.tmps A.tmps.toList → DRs ι xs ds → runDefers calld xs h = some h'' →
    Leaves P fn A.tmps (fun e w' => ∃ ι' v', ι₀.le ι' ∧ e = .returned v' ∧ Inv K ι' h'' w' ∧ VR ι' (packC vs) v') ds .returning w
  | [], [], ι, h, w, hle, H, Ft, _, e => by
    simp only [runDefers, Option.some.injEq] at e; subst e
    obtain ⟨v', h1, h2⟩ := results_sim H (a := { a with defers := [] }) (A := { A with defers := [] }) ⟨Ft, trivial⟩ Rr er
    exact ⟨v', h1, ι, v', hle, rfl, H, h2⟩
  | (f, args) :: xs, ⟨t, as⟩ :: ds, ι, h, w, hle, H, Ft, ⟨⟨cap, ht, R⟩, Rs⟩, e => by
    simp only at ht
    subst ht
    simp only [runDefers] at e
    split at e
    · next v h₁ he =>
      obtain ⟨fn', h1, h2, h3⟩ := hd.body _ _ _ _ he
      refine leaves_cons (f := f) (args := as ++ cap) (by simp) ?_ ?_
      · have h3' : fn'.name ≠ "runtime.NumGoroutine" := by simpa using h3
        have hb2 : fn'.body ≠ none := by intro hq; rw [hq] at h2; simp at h2
        simp [invoke, callFunc, h1, h3', hb2]
      · refine (hd.calls K ι h w f args (as ++ cap) v h₁ hk H R he .returning).mono ?_
        rintro e' u' w' ⟨rfl, ι', v', hle', rfl, H'⟩
        exact leaves_sim hd hk Rr er xs ds (hle.trans hle') H' (Ft.mono hle') (Rs.mono hle') e
    · simp at e
  | [], _ :: _, _, _, _, _, _, _, hh, _ => hh.elim
  | _ :: _, [], _, _, _, _, _, _, hh, _ => hh.elim

theorem body_sim (hc : CallOk P glb call) {calld : CallFn} (hd : CalldOk P glb calld) {f : FuncId} {cf : CFunc} (R : FuncR P glb f cf) {K : Ctx} (hk : K.glb = glb) {ι : Emb} {h : Heap} {w : World} (H : Inv K ι h w)
    {args : List CVal} {args' : Array Value} (Ra : VRs ι args args'.toList) {n : Nat} {v : CVal} {h' : Heap} (e : evBody call calld n cf args h = some (v, h')) :
    Calls P f args' w fun e w' => ∃ ι' v', ι.le ι' ∧ e = .returned v' ∧ Inv K ι' h' w' ∧ VR ι' v v' := by
  obtain ⟨fn, code, h1, h2, h3, h4, h5, h6⟩ := R.ex
  refine calls_of_wp_defers h1 h2 ?_
  unfold evBody at e
  split at e
  · simp at e
  · simp at e
  · next x a h₁ hx hx' he =>
    split at e
    · next h₂ hdf =>
      split at e
      · next vs hvs =>
        simp only [Option.some.injEq, Prod.mk.injEq] at e; obtain ⟨rfl, rfl⟩ := e
        refine wp_mono (h6 call hc n _ h x a h₁ he K ι _ w hk H (frame_sim h4 Ra)) ?_
        rintro e₁ A₁ w₁ ⟨hER, ι₁, hle, H₁, F₁⟩
        have fin := leaves_sim hd hk h5 hvs a.defers A₁.defers hle H₁ F₁.tmps F₁.defers hdf
        cases x with
        | normal => cases e₁ <;> simp only [ER] at hER; exact fin
        | ret => cases e₁ <;> simp only [ER] at hER; exact fin
        | exit id => exact (hx _ rfl).elim
        | goto l => exact (hx' _ rfl).elim
      · simp at e
    · simp at e
  · simp at e

theorem bodyD_sim (hc : CallOk P glb call) {f : FuncId} {cf : CFunc} (R : FuncR P glb f cf) {K : Ctx} (hk : K.glb = glb) {ι : Emb} {h : Heap} {w : World} (H : Inv K ι h w)
    {args : List CVal} {args' : Array Value} (Ra : VRs ι args args'.toList) {n : Nat} {v : CVal} {h' : Heap} (e : evBodyD call n cf args h = some (v, h')) (u : FrameMode) :
    CallsD P f args' u w fun e u' w' => u' = u ∧ ∃ ι' v', ι.le ι' ∧ e = .returned v' ∧ Inv K ι' h' w' := by
  obtain ⟨fn, code, h1, h2, h3, h4, h5, h6⟩ := R.ex
  refine callsD_of_wp (R := fun e w' => ∃ ι' v', ι.le ι' ∧ e = .returned v' ∧ Inv K ι' h' w') h1 h2 ?_
  unfold evBodyD at e
  split at e
  · simp at e
  · simp at e
  · next x a h₁ hx hx' he =>
    split at e
    · next hdf =>
      split at e
      · next vs hvs =>
        simp only [Option.some.injEq, Prod.mk.injEq] at e; obtain ⟨rfl, rfl⟩ := e
        refine wp_mono (h6 call hc n _ h x a h₁ he K ι _ w hk H (frame_sim h4 Ra)) ?_
        rintro e₁ A₁ w₁ ⟨hER, ι₁, hle, H₁, F₁⟩
        have hA : A₁.defers = [] := by
          have := F₁.defers
          rw [hdf] at this
          cases hq : A₁.defers with
          | nil => rfl
          | cons d ds => rw [hq] at this; exact this.elim
        obtain ⟨v', hr, hv⟩ := results_sim H₁ F₁ h5 hvs
        have fin : A₁.defers = [] ∧ ∃ v, (results fn A₁.tmps).run P w₁ = .ok v w₁ ∧ ∃ ι' v', ι.le ι' ∧ Ending.returned v = .returned v' ∧ Inv K ι' h₁ w₁ := ⟨hA, v', hr, ι₁, v', hle, rfl, H₁⟩
        cases x with
        | normal => cases e₁ <;> simp only [ER] at hER; exact fin
        | ret => cases e₁ <;> simp only [ER] at hER; exact fin
        | exit id => exact (hx _ rfl).elim
        | goto l => exact (hx' _ rfl).elim
      · simp at e
    · simp at e
  · simp at e

/-! ### The table -/

/-- What a function is known to do otherwise. -/
structure PrimOk (P : Program) (glb : Gl) (f : FuncId) (p : List CVal → Heap → Option (CVal × Heap)) : Prop where
  body : HasBody P f
  calls : ∀ (K : Ctx) (ι : Emb) (h : Heap) (w : World) (args : List CVal) (args' : Array Value) (v : CVal) (h' : Heap), K.glb = glb → Inv K ι h w → VRs ι args args'.toList →
    p args h = some (v, h') → Calls P f args' w fun e w' => ∃ ι' v', ι.le ι' ∧ e = .returned v' ∧ Inv K ι' h' w' ∧ VR ι' v v'

structure TabOk (P : Program) (glb : Gl) (T : Tab) : Prop where
  code : ∀ f cf, T.code f = some cf → FuncR P glb f cf
  prim : ∀ f p, T.prim f = some p → PrimOk P glb f p

theorem callF_ok {T : Tab} (hT : TabOk P glb T) : ∀ n, CallOk P glb (callF T n)
  | 0 => ⟨fun f args h r e => by simp [callF] at e, fun K ι h w f args args' v h' hk H R e => by simp [callF] at e⟩
  | n + 1 => by
    have ih := callF_ok hT n
    have ihd : CalldOk P glb (fun g as h => match T.code g with | some gn => evBodyD (callF T n) n gn as h | none => none) := by
      refine ⟨fun f args h r e => ?_, fun K ι h w f args args' v h' hk H R e u => ?_⟩
      · split at e
        · next gn hg => exact (hT.code f gn hg).body
        · simp at e
      · split at e
        · next gn hg => exact bodyD_sim ih (hT.code f gn hg) hk H R e u
        · simp at e
    refine ⟨fun f args h r e => ?_, fun K ι h w f args args' v h' hk H R e => ?_⟩
    · simp only [callF] at e
      split at e
      · next p hp => exact (hT.prim f p hp).body
      · split at e
        · next gn hg => exact (hT.code f gn hg).body
        · simp at e
    · simp only [callF] at e
      split at e
      · next p hp => exact (hT.prim f p hp).calls K ι h w args args' v h' hk H R e
      · split at e
        · next gn hg => exact body_sim ih ihd (hT.code f gn hg) hk H R e
        · simp at e
end
end Go.Proofs.YtmppoknfekdbbaaDoor.Cm
