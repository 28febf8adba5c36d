/-
  The clean machine, part Q: a region whose order is drawn does what its canonical run does.
-/
import Derived.Test.YtmppoknfekdbbaaDoorCmXP
namespace Go.Proofs.YtmppoknfekdbbaaDoor.Cm
open Go.RowKit

section
variable {call : CallFn} {base : Nat} {x : DIt} {a a' : Fr} {h h' : Heap}
theorem stepD_quiet {ks : List Nat} (hk : x.kind = .quiet ks) (e : stepD call base x a h = some (a', h')) : ∃ v, a' = a.done x.c.dst v [] ∧ h' = h := by
  simp only [stepD, hk] at e
  split at e
  · next v g he => simp only [Option.some.injEq, Prod.mk.injEq] at e; obtain ⟨rfl, rfl⟩ := e; exact ⟨v, rfl, rfl⟩
  · simp at e
theorem stepD_alloc {aid : Nat} (hk : x.kind = .alloc aid) (e : stepD call base x a h = some (a', h')) : ∃ v obj, x.c.guard = none ∧ allocC x.c.op a.tmps (base + aid) = some (v, obj) ∧ a' = a.done x.c.dst v [] ∧ h' = h.set (base + aid) obj := by
  simp only [stepD, hk] at e
  split at e
  · next v obj hg he => simp only [Option.some.injEq, Prod.mk.injEq] at e; obtain ⟨rfl, rfl⟩ := e; exact ⟨v, obj, hg, he, rfl, rfl⟩
  · simp at e
theorem stepD_eff (hk : x.kind = .eff) (e : stepD call base x a h = some (a', h')) : ∃ v ds, evOp1 call x.c a.tmps h = some (v, ds, h') ∧ a' = a.done x.c.dst v ds := by
  simp only [stepD, hk, evOper] at e
  split at e
  · next v ds g he => simp only [Option.some.injEq, Prod.mk.injEq] at e; obtain ⟨rfl, rfl⟩ := e; exact ⟨v, ds, he, rfl⟩
  · simp at e
theorem stepD_any (e : stepD call base x a h = some (a', h')) : ∃ v ds, a' = a.done x.c.dst v ds := by
  cases hk : x.kind with
  | quiet ks => obtain ⟨v, h1, _⟩ := stepD_quiet hk e; exact ⟨v, [], h1⟩
  | alloc aid => obtain ⟨v, o, _, _, h1, _⟩ := stepD_alloc hk e; exact ⟨v, [], h1⟩
  | eff => obtain ⟨v, ds, _, h1⟩ := stepD_eff hk e; exact ⟨v, ds, h1⟩
end

theorem Fr.done_len (a : Fr) (d : Option Nat) (v : CVal) (ds : List (FuncId × List CVal)) : (a.done d v ds).tmps.length = a.tmps.length := by
  cases d <;> simp [Fr.done, Fr.put]
theorem Fr.done_ne (a : Fr) (d : Option Nat) (v : CVal) (ds : List (FuncId × List CVal)) (t : Nat) (h : d ≠ some t) : (a.done d v ds).tmps.getD t .undef = a.tmps.getD t .undef := by
  cases d with
  | none => rfl
  | some d => simp [Fr.done, Fr.put, List.getElem?_set_ne (show d ≠ t by rintro rfl; exact h rfl)]
theorem Fr.done_eq (a : Fr) (t : Nat) (v : CVal) (ds : List (FuncId × List CVal)) (h : t < a.tmps.length) : (a.done (some t) v ds).tmps.getD t .undef = v := by
  simp [Fr.done, Fr.put, h]
theorem Fr.done_defers (a : Fr) (d : Option Nat) (v : CVal) (ds : List (FuncId × List CVal)) : (a.done d v ds).defers = ds ++ a.defers := by
  cases d <;> rfl

theorem tmpR_put_ne {ι : Emb} {a : List CVal} {A : Act} {d : Option Nat} {t : Nat} {v' : Value} (h : d ≠ some t) (R : TmpR ι a A t) (ds : List Deferred) : TmpR ι a ({ A with defers := ds }.put d v') t := by
  cases d with
  | none => exact R
  | some d =>
    have hne : d ≠ t := by rintro rfl; exact h rfl
    simpa [TmpR, Act.put, Array.getElem?_setIfInBounds_ne hne] using R

theorem tmpR_put_eq {ι : Emb} {a : List CVal} {A : Act} {t : Nat} {v' : Value} (hl : A.tmps.size = a.length) (R : t < a.length → VR ι (a.getD t .undef) v') (ds : List Deferred) : TmpR ι a ({ A with defers := ds }.put (some t) v') t := by
  unfold TmpR
  by_cases hlt : t < a.length
  · have : (A.tmps.setIfInBounds t v').getD t undef = v' := by simp [hl, hlt]
    simp only [Act.put, this]
    exact R hlt
  · rw [List.getD_eq_getElem?_getD, List.getElem?_eq_none (by omega)]
    exact .undef _

theorem put_size (A : Act) (d : Option Nat) (v : Value) : (A.put d v).tmps.size = A.tmps.size := by
  cases d <;> simp [Act.put]
theorem put_defers' (A : Act) (d : Option Nat) (v : Value) : (A.put d v).defers = A.defers := by
  cases d <;> rfl

section
variable {P : Program} {glb : Gl} {call : CallFn} {ops : Array Oper} {its : List DIt} {k : Nat} {B : List Nat}
variable {base : Nat} {fr : Nat → Fr} {hp : Nat → Heap}

/-- The canonical run. -/
def Run (call : CallFn) (its : List DIt) (base : Nat) (fr : Nat → Fr) (hp : Nat → Heap) : Prop := ∀ (p : Nat) (x : DIt), its[p]? = some x → stepD call base x (fr p) (hp p) = some (fr (p + 1), hp (p + 1))

theorem getIt {p : Nat} (hp : p < its.length) : ∃ x, its[p]? = some x := ⟨its[p], List.getElem?_eq_getElem hp⟩
theorem itLt {p : Nat} {x : DIt} (h : its[p]? = some x) : p < its.length := (List.getElem?_eq_some_iff.1 h).1

theorem Run.len (R : Run call its base fr hp) : ∀ p, p ≤ its.length → (fr p).tmps.length = (fr 0).tmps.length
  | 0, _ => rfl
  | p + 1, h => by
    obtain ⟨x, hx⟩ := getIt (its := its) (p := p) (by omega)
    obtain ⟨v, ds, e⟩ := stepD_any (R p x hx)
    rw [e, Fr.done_len]; exact Run.len R p (by omega)

theorem Run.late (R : Run call its base fr hp) {t : Nat} : ∀ (d p : Nat), its.length - p = d → p ≤ its.length → (∀ (q : Nat) (y : DIt), its[q]? = some y → y.c.dst = some t → q < p) → (fr p).tmps.getD t .undef = (fr its.length).tmps.getD t .undef
  | 0, p, hd, hp', _ => by rw [show p = its.length by omega]
  | d + 1, p, hd, hp', hq => by
    obtain ⟨x, hx⟩ := getIt (its := its) (p := p) (by omega)
    obtain ⟨v, ds, e⟩ := stepD_any (R p x hx)
    rw [← Run.late R d (p + 1) (by omega) (by omega) (fun q y h1 h2 => by have := hq q y h1 h2; omega), e, Fr.done_ne]
    intro h1
    have := hq p x hx h1
    omega

theorem Run.early (R : Run call its base fr hp) {t : Nat} : ∀ (p : Nat), p ≤ its.length → (∀ (q : Nat) (y : DIt), its[q]? = some y → y.c.dst = some t → p ≤ q) → (fr p).tmps.getD t .undef = (fr 0).tmps.getD t .undef
  | 0, _, _ => rfl
  | p + 1, hp', hq => by
    obtain ⟨x, hx⟩ := getIt (its := its) (p := p) (by omega)
    obtain ⟨v, ds, e⟩ := stepD_any (R p x hx)
    rw [e, Fr.done_ne]
    · exact Run.early R p (by omega) (fun q y h1 h2 => by have := hq q y h1 h2; omega)
    · intro h1
      have := hq p x hx h1
      omega

theorem Run.value (R : Run call its base fr hp) (hdst : ∀ (p q : Nat) (x y : DIt) (t : Nat), its[p]? = some x → its[q]? = some y → x.c.dst = some t → y.c.dst = some t → p = q) {p : Nat} {x : DIt} (hx : its[p]? = some x) {t : Nat} (ht : x.c.dst = some t)
    {v : CVal} {ds : List (FuncId × List CVal)} (e : fr (p + 1) = (fr p).done x.c.dst v ds) (hlt : t < (fr 0).tmps.length) : (fr its.length).tmps.getD t .undef = v := by
  have hp' := itLt hx
  rw [← R.late (t := t) _ (p + 1) rfl (by omega) (fun q y h1 h2 => by have := hdst q p y x t h1 hx h2 ht; omega), e, ht]
  exact Fr.done_eq _ _ _ _ (by rw [R.len p (by omega)]; exact hlt)

/-- From one place to the next without an effect. -/
theorem Run.calm (R : Run call its base fr hp) {τ : Nat} : ∀ (d q : Nat), q = τ + d → q ≤ its.length → (∀ r, τ ≤ r → r < q → ¬ isEff its r) →
    (hp q).next = (hp τ).next ∧ (fr q).defers = (fr τ).defers ∧ (∀ i, (∀ (r : Nat) (y : DIt) (aid : Nat), τ ≤ r → r < q → isAl its r y aid → i ≠ base + aid) → (hp q).get i = (hp τ).get i)
  | 0, q, hq, _, _ => by subst hq; exact ⟨rfl, rfl, fun _ _ => rfl⟩
  | d + 1, q, hq, hle, he => by
    obtain ⟨h1, h2, h3⟩ := Run.calm R d (τ + d) rfl (by omega) (fun r hr hr' => he r hr (by omega))
    obtain ⟨x, hx⟩ := getIt (its := its) (p := τ + d) (by omega)
    have hs := R _ x hx
    have hqe : q = τ + d + 1 := by omega
    subst hqe
    cases hk : x.kind with
    | quiet ks =>
      obtain ⟨v, e1, e2⟩ := stepD_quiet hk hs
      refine ⟨by rw [e2]; exact h1, by rw [e1, Fr.done_defers]; exact h2, fun i hi => ?_⟩
      rw [e2]; exact h3 i fun r y aid hr hr' => hi r y aid hr (by omega)
    | alloc aid =>
      obtain ⟨v, obj, _, _, e1, e2⟩ := stepD_alloc hk hs
      refine ⟨by rw [e2]; exact h1, by rw [e1, Fr.done_defers]; exact h2, fun i hi => ?_⟩
      rw [e2, Heap.get_set_ne _ _ _ _ (hi (τ + d) x aid (by omega) (by omega) ⟨hx, hk⟩)]
      exact h3 i fun r y aid hr hr' => hi r y aid hr (by omega)
    | eff => exact absurd ⟨x, hx, hk⟩ (he (τ + d) (by omega) (by omega))

theorem Run.calm_in (R : Run call its base fr hp) (haid : ∀ (p q : Nat) (x y : DIt) (aid : Nat), isAl its p x aid → isAl its q y aid → p = q) {τ q : Nat} (hle : q ≤ its.length) (he : ∀ r, τ ≤ r → r < q → ¬ isEff its r)
    {r : Nat} {y : DIt} {aid : Nat} (hr : τ ≤ r) (hr' : r < q) (ha : isAl its r y aid) {v : CVal} {obj : CObj} (hal : allocC y.c.op (fr r).tmps (base + aid) = some (v, obj)) : (hp q).get (base + aid) = some obj := by
  obtain ⟨v', obj', _, e1, _, e2⟩ := stepD_alloc ha.2 (R r y ha.1)
  rw [hal] at e1
  simp only [Option.some.injEq, Prod.mk.injEq] at e1
  obtain ⟨rfl, rfl⟩ := e1
  have h3 := (R.calm (τ := r + 1) (q - (r + 1)) q (by omega) hle (fun r' h1 h2 => he r' (by omega) h2)).2.2 (base + aid) (fun r' y' aid' h1 h2 h4 e => by
    have : aid = aid' := by omega
    subst this
    have := haid r r' y y' aid ha h4
    omega)
  rw [h3, e2, Heap.get_set]; simp

def Unborn (its : List DIt) (base : Nat) (listed : Array Bool) (i : Nat) : Prop := ∃ (q : Nat) (y : DIt) (aid : Nat), isAl its q y aid ∧ i = base + aid ∧ listed.getD y.ix false = false

def Ctx.wait (K : Ctx) (its : List DIt) (base : Nat) (listed : Array Bool) : Ctx := { K with N := fun i => K.N i ∨ Unborn its base listed i, U := fun i => K.U i ∨ Unborn its base listed i }

/-- How things stand while the region runs in whatever order. -/
structure St (ops : Array Oper) (its : List DIt) (base : Nat) (fr : Nat → Fr) (hp : Nat → Heap) (K : Ctx) (ι₀ : Emb) (listed : Array Bool) (A : Act) (w : World) (ι : Emb) (τ : Nat) (hD : Heap) : Prop where
  le : ι₀.le ι
  tn : τ ≤ its.length
  stage : isStage its τ
  effs : ∀ (q : Nat) (y : DIt), its[q]? = some y → y.kind = .eff → (listed.getD y.ix false = true ↔ q < τ)
  closed : Closed ops listed
  size : listed.size = ops.size
  inv : Inv (K.wait its base listed) ι hD w
  pend : ∀ (q : Nat) (y : DIt) (aid : Nat) (v : CVal) (obj : CObj), isAl its q y aid → τ ≤ q → listed.getD y.ix false = true → allocC y.c.op (fr q).tmps (base + aid) = some (v, obj) → hD.get (base + aid) = some obj ∧ obj.wr = true
  same : ∀ i, (∀ (q : Nat) (y : DIt) (aid : Nat), isAl its q y aid → τ ≤ q → listed.getD y.ix false = true → i ≠ base + aid) → hD.get i = (hp τ).get i
  next : hD.next = (hp τ).next
  none : ∀ (q : Nat) (y : DIt) (aid : Nat), isAl its q y aid → τ ≤ q → (hp τ).get (base + aid) = none
  len : A.tmps.size = (fr 0).tmps.length
  slots : ∀ t, (∀ (q : Nat) (y : DIt), its[q]? = some y → y.c.dst = some t → listed.getD y.ix false = true) → TmpR ι (fr its.length).tmps A t
  slots₀ : ∀ t, (∀ (q : Nat) (y : DIt), its[q]? = some y → y.c.dst = some t → listed.getD y.ix false = false) → TmpR ι (fr 0).tmps A t
  defers : DRs ι (fr τ).defers A.defers

variable {K : Ctx} {ι₀ ι : Emb} {listed : Array Bool} {A : Act} {w : World} {τ : Nat} {hD : Heap}

/-- An operation that is ready: its item. -/
structure Ripe (ops : Array Oper) (its : List DIt) (listed : Array Bool) (p : Nat) (x : DIt) (o : Oper) : Prop where
  it : its[p]? = some x
  op : ops[x.ix]? = some o
  not : listed.getD x.ix false = false
  edges : ∀ e ∈ edgesOf o, listed.getD e false = true

theorem Ripe.prec {p : Nat} {x : DIt} {o : Oper} (D : DrawOk P glb ops its k B) (S : St ops its base fr hp K ι₀ listed A w ι τ hD) (r : Ripe ops its listed p x o) {i : Nat} (h : prec B i x.ix = true) : listed.getD i false = true :=
  prec_listed D.masks S.closed S.size _ _ (Nat.lt_succ_self _) o r.op r.edges i h

theorem Ripe.slots' {p : Nat} {x : DIt} {o : Oper} (R : Run call its base fr hp) (D : DrawOk P glb ops its k B) (S : St ops its base fr hp K ι₀ listed A w ι τ hD) (r : Ripe ops its listed p x o) {t : Nat} (ht : x.c.looks o t) : TmpR ι (fr p).tmps A t := by
  obtain ⟨o', ho', _, hl⟩ := D.rel p x r.it
  rw [r.op] at ho'; simp at ho'; subst ho'
  have hpl := itLt r.it
  classical
  by_cases hw : ∃ (q : Nat) (y : DIt), its[q]? = some y ∧ y.c.dst = some t ∧ q < p
  · obtain ⟨q, y, hy, hd, hq⟩ := hw
    have huniq : ∀ (q' : Nat) (y' : DIt), its[q']? = some y' → y'.c.dst = some t → q' = q ∧ y' = y := fun q' y' hy' hd' => by
      have := D.dst q' q y' y t hy' hy hd' hd
      subst this
      rw [hy] at hy'; simp at hy'; exact ⟨rfl, hy'.symm⟩
    have hyl : listed.getD y.ix false = true := by
      rcases hl t ht q y hy hd with h | h
      · exact r.prec D S h.2
      · omega
    have h := S.slots t fun q' y' hy' hd' => by rw [(huniq q' y' hy' hd').2]; exact hyl
    unfold TmpR at h ⊢
    rw [R.late (t := t) _ p rfl (Nat.le_of_lt hpl) (fun q' y' hy' hd' => by rw [(huniq q' y' hy' hd').1]; exact hq)]
    exact h
  · have hge : ∀ (q : Nat) (y : DIt), its[q]? = some y → y.c.dst = some t → p ≤ q := fun q y hy hd => by
      rcases Nat.lt_or_ge q p with h | h
      · exact absurd ⟨q, y, hy, hd, h⟩ hw
      · exact h
    have h := S.slots₀ t fun q y hy hd => by
      rcases hl t ht q y hy hd with h | ⟨_, h | h⟩
      · have := hge q y hy hd; omega
      · subst h
        rw [r.it] at hy; simp at hy; subst hy
        exact r.not
      · cases hq : listed.getD y.ix false with
        | false => rfl
        | true =>
          obtain ⟨oy, hoy, _⟩ := D.rel q y hy
          have := prec_listed D.masks S.closed S.size _ _ (Nat.lt_succ_self _) oy hoy (S.closed _ _ hoy hq) x.ix h
          rw [r.not] at this; simp at this
    unfold TmpR at h ⊢
    rw [R.early (t := t) p (Nat.le_of_lt hpl) hge]
    exact h

theorem Ripe.set_self {p : Nat} {x : DIt} {o : Oper} (S : St ops its base fr hp K ι₀ listed A w ι τ hD) (r : Ripe ops its listed p x o) : (listed.setIfInBounds x.ix true).getD x.ix false = true := by
  have := (Array.getElem?_eq_some_iff.1 r.op).1
  have h2 := S.size
  simp [show x.ix < listed.size by omega]

theorem Ripe.closed {p : Nat} {x : DIt} {o : Oper} (S : St ops its base fr hp K ι₀ listed A w ι τ hD) (r : Ripe ops its listed p x o) : Closed ops (listed.setIfInBounds x.ix true) := by
  intro j o' ho' hl e he
  by_cases hj : x.ix = j
  · subst hj
    rw [r.op] at ho'; simp at ho'; subst ho'
    exact getD_set_true (r.edges e he)
  · rw [getD_set_ne false hj] at hl
    exact getD_set_true (S.closed j o' ho' hl e he)

/-- The slots after one more operation. -/
theorem Ripe.slotsAfter {p : Nat} {x : DIt} {o : Oper} (D : DrawOk P glb ops its k B) (S : St ops its base fr hp K ι₀ listed A w ι τ hD) (Rn : Run call its base fr hp) (r : Ripe ops its listed p x o) {v : CVal} {ds : List (FuncId × List CVal)}
    (e : fr (p + 1) = (fr p).done x.c.dst v ds) {ι' : Emb} (hle : ι.le ι') {v' : Value} (hv : VR ι' v v') (ds' : List Deferred) (t : Nat) (ht : ∀ (q : Nat) (y : DIt), its[q]? = some y → y.c.dst = some t → (listed.setIfInBounds x.ix true).getD y.ix false = true) :
    TmpR ι' (fr its.length).tmps ({ A with defers := ds' }.put x.c.dst v') t := by
  by_cases hd : x.c.dst = some t
  · rw [hd]
    have hlen := Rn.len its.length (Nat.le_refl _)
    refine tmpR_put_eq (by rw [S.len, hlen]) (fun hlt => ?_) ds'
    rw [Rn.value D.dst r.it hd e (by rw [hlen] at hlt; exact hlt)]
    exact hv
  · refine tmpR_put_ne hd ?_ ds'
    refine VR.mono hle (S.slots t fun q y hy hyd => ?_)
    have h1 := ht q y hy hyd
    by_cases hi : x.ix = y.ix
    · have := D.inj p q x y r.it hy hi
      subst this
      rw [r.it] at hy; simp at hy; subst hy
      exact absurd hyd hd
    · rw [getD_set_ne false hi] at h1; exact h1

theorem Ripe.slotsAfter₀ {p : Nat} {x : DIt} {o : Oper} (S : St ops its base fr hp K ι₀ listed A w ι τ hD) (r : Ripe ops its listed p x o) {ι' : Emb} (hle : ι.le ι') {v' : Value} (ds' : List Deferred) (t : Nat)
    (ht : ∀ (q : Nat) (y : DIt), its[q]? = some y → y.c.dst = some t → (listed.setIfInBounds x.ix true).getD y.ix false = false) : TmpR ι' (fr 0).tmps ({ A with defers := ds' }.put x.c.dst v') t := by
  have hd : x.c.dst ≠ some t := fun hd => by
    have := ht p x r.it hd
    rw [r.set_self S] at this; simp at this
  refine tmpR_put_ne hd (VR.mono hle (S.slots₀ t fun q y hy hyd => ?_)) ds'
  cases hq : listed.getD y.ix false with
  | false => rfl
  | true => have := ht q y hy hyd; rw [getD_set_true hq] at this; simp at this

theorem Unborn.anti {i j : Nat} (h : Unborn its base (listed.setIfInBounds j true) i) : Unborn its base listed i := by
  obtain ⟨q, y, aid, h1, h2, h3⟩ := h
  refine ⟨q, y, aid, h1, h2, ?_⟩
  cases hq : listed.getD y.ix false with
  | false => rfl
  | true => rw [getD_set_true hq] at h3; simp at h3

/-! #### Quiet items -/

theorem Ripe.stage {p : Nat} {x : DIt} {o : Oper} {ks : List Nat} (D : DrawOk P glb ops its k B) (S : St ops its base fr hp K ι₀ listed A w ι τ hD) (r : Ripe ops its listed p x o) (hk : x.kind = .quiet ks) : τ ∈ ks := by
  rcases (D.quiet p x ks r.it hk).2 τ S.stage S.tn with h | ⟨q, y, hy, hye, hq, hb⟩ | ⟨q, y, hy, hye, hq, hb⟩
  · exact h
  · have := (S.effs q y hy hye).1 (r.prec D S hb)
    omega
  · have h1 := (S.effs q y hy hye).2 hq
    obtain ⟨oy, hoy, _⟩ := D.rel q y hy
    have := prec_listed D.masks S.closed S.size _ _ (Nat.lt_succ_self _) oy hoy (S.closed _ _ hoy h1) x.ix hb
    rw [r.not] at this; simp at this

/-- Ids of the objects that were made too early. -/
def Early (its : List DIt) (base τ : Nat) (listed : Array Bool) (i : Nat) : Prop := ∃ (q : Nat) (y : DIt) (aid : Nat), isAl its q y aid ∧ τ ≤ q ∧ listed.getD y.ix false = true ∧ i = base + aid

theorem St.early (Rn : Run call its base fr hp) (S : St ops its base fr hp K ι₀ listed A w ι τ hD) {τ' : Nat} (hle : τ ≤ τ') {i : Nat} (h : Early its base τ' listed i) : ∃ o, hD.get i = some o ∧ o.wr = true := by
  obtain ⟨q, y, aid, h1, h2, h3, rfl⟩ := h
  obtain ⟨v, obj, _, ha, _⟩ := stepD_alloc h1.2 (Rn q y h1.1)
  exact ⟨obj, S.pend q y aid v obj h1 (by omega) h3 ha⟩

theorem quiet_step {p : Nat} {x : DIt} {o : Oper} {ks : List Nat} (D : DrawOk P glb ops its k B) (Rn : Run call its base fr hp) (S : St ops its base fr hp K ι₀ listed A w ι τ hD) (hk : K.glb = glb) (r : Ripe ops its listed p x o) (hq : x.kind = .quiet ks)
    {hs : List (Fr × Heap)} (hhs : ∀ p, p ≤ its.length → hs[p]? = some (fr p, hp p)) (hch : ∀ k ∈ ks, checkQ x.c (fr p).tmps (fr its.length).tmps hs k = true) {N : Act → World → Prop} {Q : Exit → Act → World → Prop}
    (next : ∀ A', St ops its base fr hp K ι₀ (listed.setIfInBounds x.ix true) A' w ι τ hD → N A' w) : wpOp P ops Q x.ix N A w := by
  have hc := hch τ (r.stage D S hq)
  simp only [checkQ, hhs τ S.tn] at hc
  obtain ⟨o', ho', R, hl⟩ := D.rel p x r.it
  rw [r.op] at ho'; simp at ho'; subst ho'
  obtain ⟨v₁, e₁, e₂⟩ := stepD_quiet hq (Rn p x r.it)
  -- what the value must be
  have fin : ∀ (v : CVal) (v' : Value), (∀ d, x.c.dst = some d → v = (fr its.length).tmps.getD d .undef) → VR ι v v' → N (A.put x.c.dst v') w := by
    intro v v' hval hv
    refine next _ ?_
    have hne : ∀ (q : Nat) (y : DIt), its[q]? = some y → (¬ ∃ ks, y.kind = .quiet ks) → (listed.setIfInBounds x.ix true).getD y.ix false = listed.getD y.ix false := by
      intro q y hy hny
      refine getD_set_ne false fun hi => hny ?_
      have := D.inj p q x y r.it hy hi
      subst this
      rw [r.it] at hy; simp at hy; subst hy
      exact ⟨ks, hq⟩
    have hal : ∀ (q : Nat) (y : DIt) (aid : Nat), isAl its q y aid → (listed.setIfInBounds x.ix true).getD y.ix false = listed.getD y.ix false := fun q y aid h => hne q y h.1 (by rintro ⟨ks, hk⟩; rw [h.2] at hk; simp at hk)
    refine ⟨S.le, S.tn, S.stage, fun q y hy hye => ?_, r.closed S, by simp [S.size], ?_, fun q y aid v obj h1 h2 h3 => ?_, fun i hi => ?_, S.next, S.none, by rw [put_size]; exact S.len, fun t ht => ?_, fun t ht => r.slotsAfter₀ S (Emb.le.refl _) A.defers t ht, by rw [put_defers']; exact S.defers⟩
    · rw [hne q y hy (by rintro ⟨ks, hk⟩; rw [hye] at hk; simp at hk)]; exact S.effs q y hy hye
    · exact Inv.weak S.inv (fun i hi => hi.imp id Unborn.anti) (fun i hi => hi.imp id Unborn.anti)
    · rw [hal q y aid h1] at h3; exact S.pend q y aid v obj h1 h2 h3
    · exact S.same i fun q y aid h1 h2 h3 => hi q y aid h1 h2 (by rw [hal q y aid h1]; exact h3)
    · by_cases hd : x.c.dst = some t
      · rw [hd]
        have hlen := Rn.len its.length (Nat.le_refl _)
        refine tmpR_put_eq (A := A) (by rw [S.len, hlen]) (fun _ => ?_) A.defers
        rw [← hval t hd]; exact hv
      · refine tmpR_put_ne (A := A) hd (S.slots t fun q y hy hyd => ?_) A.defers
        have h1 := ht q y hy hyd
        by_cases hi : x.ix = y.ix
        · have := D.inj p q x y r.it hy hi
          subst this
          rw [r.it] at hy; simp at hy; subst hy
          exact absurd hyd hd
        · rw [getD_set_ne false hi] at h1; exact h1
  -- the heap without what came too early
  have hS : ∀ i, Early its base τ listed i → ∃ o, hD.get i = some o ∧ o.wr = true := fun i h => S.early Rn (Nat.le_refl _) h
  have H' : Inv ((K.wait its base listed).hide ι (Early its base τ listed) w) ι (hp τ) w := by
    refine S.inv.hide hS (fun i => ?_) (fun i hi => ?_) S.next.symm
    · rintro ⟨q, y, aid, h1, h2, h3, rfl⟩
      exact S.none q y aid h1 h2
    · exact (S.same i fun q y aid h1 h2 h3 e => hi ⟨q, y, aid, h1, h2, h3, e⟩).symm
  split at hc
  · next v g he =>
    have hval : ∀ d, x.c.dst = some d → v = (fr its.length).tmps.getD d .undef := by
      intro d hd
      rw [hd] at hc
      exact CVal.beq_eq hc
    unfold evOp1 at he
    simp only [wpOp, r.op]
    split at he
    · simp at he
    · next hw =>
      simp only [Option.some.injEq, Prod.mk.injEq] at he
      obtain ⟨rfl, _, _⟩ := he
      simp only [wanted_sim R (fun t ht => r.slots' Rn D S ht) hw, Bool.false_eq_true, if_false, ← R.dst]
      exact fin _ _ hval (VR.un ι)
    · next hw =>
      simp only [wanted_sim R (fun t ht => r.slots' Rn D S ht) hw, if_true]
      refine .inl ?_
      have good := R.good.quiet (D.quiet p x ks r.it hq).1 _ ι (hp τ) w _ A (show ((K.wait its base listed).hide ι (Early its base τ listed) w).glb = glb from hk) H' (fun t ht => r.slots' Rn D S (.inl ht))
      split at he
      · simp at he
      · next v₂ h₂ hcop =>
        simp only [Option.some.injEq, Prod.mk.injEq] at he
        obtain ⟨rfl, _, _⟩ := he
        obtain ⟨v₃, v', e3, e4, hrun, hv⟩ := good _ _ hcop
        cases e3
        simp only [Oper.wp, hrun, Oper.upon, ← R.dst]
        exact fin _ _ hval hv
      · next f args h₂ hcop =>
        obtain ⟨v₃, v', e3, _⟩ := good _ _ hcop
        simp at e3
      · next f args h₂ hcop =>
        obtain ⟨v₃, v', e3, _⟩ := good _ _ hcop
        simp at e3
  · simp at hc
end
end Go.Proofs.YtmppoknfekdbbaaDoor.Cm
