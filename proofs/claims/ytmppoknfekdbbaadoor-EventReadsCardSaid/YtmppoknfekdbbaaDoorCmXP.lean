/-
  The clean machine, part P: regions whose order is drawn.
-/
import Derived.Test.YtmppoknfekdbbaaDoorCmXO
namespace Go.Proofs.YtmppoknfekdbbaaDoor.Cm
open Go.RowKit

/-! ### What comes before what -/

def edgesOf (o : Oper) : List Nat := (o.after.toList.filter (Region.binds .any)).map (·.on)

/-- Known to come before: by a mask for each operation. -/
def prec (B : List Nat) (i j : Nat) : Bool := (B.getD j 0).testBit i

def maskOf (B : List Nat) : List Nat → Nat
  | [] => 0
  | e :: es => (2 ^ e ||| B.getD e 0) ||| maskOf B es

theorem maskOf_spec (B : List Nat) (i : Nat) : ∀ es : List Nat, (maskOf B es).testBit i = true → ∃ e ∈ es, i = e ∨ prec B i e = true
  | [], h => by simp [maskOf] at h
  | e :: es, h => by
    simp only [maskOf, Nat.testBit_or, Bool.or_eq_true] at h
    rcases h with (h | h) | h
    · exact ⟨e, by simp, .inl (by simp [Nat.testBit_two_pow] at h; exact h.symm)⟩
    · exact ⟨e, by simp, .inr h⟩
    · obtain ⟨e', h1, h2⟩ := maskOf_spec B i es h
      exact ⟨e', by simp [h1], h2⟩

/-- The masks say no more than the edges do; edges lead back. -/
def masksOk (B : List Nat) (ops : Array Oper) : Prop := ∀ j o, ops[j]? = some o → (∀ e ∈ edgesOf o, e < j) ∧ ∀ i, prec B i j = true → ∃ e ∈ edgesOf o, i = e ∨ prec B i e = true

def Closed (ops : Array Oper) (listed : Array Bool) : Prop := ∀ j o, ops[j]? = some o → listed.getD j false = true → ∀ e ∈ edgesOf o, listed.getD e false = true

theorem prec_listed {B : List Nat} {ops : Array Oper} (hB : masksOk B ops) {listed : Array Bool} (hc : Closed ops listed) (hl : listed.size = ops.size) : ∀ (n j : Nat), j < n → ∀ (o : Oper), ops[j]? = some o → (∀ e ∈ edgesOf o, listed.getD e false = true) →
    ∀ i, prec B i j = true → listed.getD i false = true
  | 0, _, hn, _, _, _, _, _ => by omega
  | n + 1, j, hn, o, ho, hall, i, hp => by
    obtain ⟨h1, h2⟩ := hB j o ho
    obtain ⟨e, he, hh⟩ := h2 i hp
    rcases hh with rfl | hh
    · exact hall _ he
    · have hel := hall e he
      have hlt : e < listed.size := by
        rcases Nat.lt_or_ge e listed.size with h | h
        · exact h
        · simp [Array.getElem?_eq_none h] at hel
      have : ops[e]? = some ops[e] := by rw [Array.getElem?_eq_getElem (by omega)]
      exact prec_listed hB hc hl n e (by have := h1 e he; omega) _ this (hc e _ this hel) i hh

theorem ready_edges {ops : Array Oper} {listed : Array Bool} {j : Nat} (h : j ∈ Region.ready .any ops listed) : listed.getD j true = false ∧ ∃ o, ops[j]? = some o ∧ ∀ e ∈ edgesOf o, listed.getD e false = true := by
  obtain ⟨h0, o, ho, h1⟩ := mem_ready.1 h
  refine ⟨h0, o, ho, fun e he => ?_⟩
  simp only [edgesOf, List.mem_map, List.mem_filter] at he
  obtain ⟨x, ⟨hx, hb⟩, rfl⟩ := he
  exact h1 x (by simpa using hx) hb

/-- Where nothing is ready, all is done. -/
theorem ready_nil {B : List Nat} {ops : Array Oper} (hB : masksOk B ops) {listed : Array Bool} (hl : listed.size = ops.size) (h : Region.ready .any ops listed = []) : ∀ (n i : Nat), i < n → i < ops.size → listed.getD i false = true
  | 0, _, hn, _ => by omega
  | n + 1, i, hn, hi => by
    cases hq : listed.getD i false with
    | true => rfl
    | false =>
      have ho : ops[i]? = some ops[i] := Array.getElem?_eq_getElem hi
      have hmem : i ∈ Region.ready .any ops listed := by
        rw [mem_ready]
        refine ⟨?_, ops[i], ho, fun e he hb => ?_⟩
        · have : i < listed.size := by omega
          simp [Array.getD_eq_getD_getElem?, Array.getElem?_eq_getElem this] at hq ⊢
          exact hq
        · have hed : e.on ∈ edgesOf ops[i] := by
            simp only [edgesOf, List.mem_map, List.mem_filter]
            exact ⟨e, ⟨by simpa using he, hb⟩, rfl⟩
          have hlt := (hB i _ ho).1 _ hed
          exact ready_nil hB hl h n e.on (by omega) (by omega)
      rw [h] at hmem
      simp at hmem

/-- How many are left. -/
def left (listed : Array Bool) : Nat → Nat
  | 0 => 0
  | m + 1 => left listed m + (if listed.getD m false then 0 else 1)

theorem left_set {listed : Array Bool} {i : Nat} (hi : i < listed.size) (hf : listed.getD i false = false) : ∀ m, (i < m → left (listed.setIfInBounds i true) m + 1 = left listed m) ∧ (m ≤ i → left (listed.setIfInBounds i true) m = left listed m)
  | 0 => ⟨by omega, fun _ => rfl⟩
  | m + 1 => by
    obtain ⟨h1, h2⟩ := left_set hi hf m
    refine ⟨fun hlt => ?_, fun hle => ?_⟩
    · by_cases e : i = m
      · subst e
        have h3 := h2 (Nat.le_refl _)
        have h4 : (listed.setIfInBounds i true).getD i false = true := by simp [hi]
        simp only [left, h4, hf, h3]; simp
      · have h3 := h1 (by omega)
        simp only [left, getD_set_ne false e]
        omega
    · have h3 := h2 (by omega)
      simp only [left, getD_set_ne false (show i ≠ m by omega), h3]

theorem left_zero {listed : Array Bool} : ∀ {m : Nat}, left listed m = 0 → ∀ i, i < m → listed.getD i false = true
  | 0, _, i, hi => by omega
  | m + 1, h, i, hi => by
    simp only [left] at h
    have h1 : left listed m = 0 := by omega
    by_cases e : i = m
    · subst e
      cases hq : listed.getD i false with
      | true => rfl
      | false => simp [hq] at h
    · exact left_zero h1 i (by omega)

theorem left_rep (n : Nat) : ∀ m, m ≤ n → left (Array.replicate n false) m = m
  | 0, _ => rfl
  | m + 1, h => by
    have : (Array.replicate n false).getD m false = false := by simp [Array.getElem?_replicate]; split <;> rfl
    simp only [left, left_rep n m (by omega), this]; simp

/-! ### The canonical run -/

theorem evD_trace {call : CallFn} {base : Nat} : ∀ (its : List DIt) (a : Fr) (h : Heap) (a' : Fr) (h' : Heap) (hs : List (Fr × Heap)), evD call base its a h = some (a', h', hs) →
    ∃ (fr : Nat → Fr) (hp : Nat → Heap), fr 0 = a ∧ hp 0 = h ∧ fr its.length = a' ∧ hp its.length = h' ∧ (∀ p, p ≤ its.length → hs[p]? = some (fr p, hp p)) ∧ (∀ p, its.length < p → hs[p]? = none) ∧
      ∀ (p : Nat) (x : DIt), its[p]? = some x → stepD call base x (fr p) (hp p) = some (fr (p + 1), hp (p + 1))
  | [], a, h, a', h', hs, e => by
    simp only [evD, Option.some.injEq, Prod.mk.injEq] at e; obtain ⟨rfl, rfl, rfl⟩ := e
    refine ⟨fun _ => a, fun _ => h, rfl, rfl, rfl, rfl, fun p hp => ?_, fun p hp => ?_, fun p x hx => by simp at hx⟩
    · simp at hp; subst hp; rfl
    · simp at hp; simp; omega
  | it :: its, a, h, a', h', hs, e => by
    simp only [evD] at e
    split at e
    · next a₁ h₁ he =>
      split at e
      · next a₂ h₂ hs₂ he₂ =>
        simp only [Option.some.injEq, Prod.mk.injEq] at e; obtain ⟨rfl, rfl, rfl⟩ := e
        obtain ⟨fr, hp, h1, h2, h3, h4, h5, h6, h7⟩ := evD_trace its a₁ h₁ a₂ h₂ hs₂ he₂
        refine ⟨fun p => match p with | 0 => a | p + 1 => fr p, fun p => match p with | 0 => h | p + 1 => hp p, rfl, rfl, h3, h4, ?_, ?_, ?_⟩
        · intro p hp'
          cases p with
          | zero => rfl
          | succ p => simpa using h5 p (by simpa using hp')
        · intro p hp'
          cases p with
          | zero => simp at hp'
          | succ p => simpa using h6 p (by simpa using hp')
        · intro p x hx
          cases p with
          | zero =>
            simp at hx; subst hx
            simp only [h1, h2]; exact he
          | succ p => exact h7 p x (by simpa using hx)
      · simp at e
    · simp at e

theorem checkD_spec {out : List CVal} {hs : List (Fr × Heap)} : ∀ {its : List DIt} {ss : List (Fr × Heap)}, checkD out hs its ss = true → ∀ (p : Nat) (x : DIt) (ks : List Nat) (s : Fr × Heap), its[p]? = some x → ss[p]? = some s → x.kind = .quiet ks → ∀ k ∈ ks, checkQ x.c s.1.tmps out hs k = true
  | [], _, _, p, x, ks, _, hx, _, _, _, _ => by simp at hx
  | it :: its, s :: ss, h, p, x, ks, s', hx, hs', hk, k, hm => by
    simp only [checkD, Bool.and_eq_true] at h
    cases p with
    | zero =>
      simp at hx hs'; subst hx; subst hs'
      have := h.1
      rw [hk] at this
      exact List.all_eq_true.1 this k hm
    | succ p => exact checkD_spec h.2 p x ks s' (by simpa using hx) (by simpa using hs') hk k hm
  | _ :: _, [], h, _, _, _, _, _, _, _, _, _ => by simp [checkD] at h

/-! ### What is asked of the items -/

def isEff (its : List DIt) (p : Nat) : Prop := ∃ y, its[p]? = some y ∧ y.kind = .eff
def isAl (its : List DIt) (p : Nat) (x : DIt) (aid : Nat) : Prop := its[p]? = some x ∧ x.kind = .alloc aid

/-- Where the heap may stand: at the beginning, or after an effect. -/
def isStage (its : List DIt) (τ : Nat) : Prop := τ = 0 ∨ ∃ q, τ = q + 1 ∧ isEff its q

structure DrawOk (P : Program) (glb : Gl) (ops : Array Oper) (its : List DIt) (k : Nat) (B : List Nat) : Prop where
  masks : masksOk B ops
  inj : ∀ (p q : Nat) (x y : DIt), its[p]? = some x → its[q]? = some y → x.ix = y.ix → p = q
  sur : ∀ i, i < ops.size → ∃ (p : Nat) (x : DIt), its[p]? = some x ∧ x.ix = i
  rel : ∀ (p : Nat) (x : DIt), its[p]? = some x → ∃ o, ops[x.ix]? = some o ∧ CoperR P glb ops o x.c ∧
    ∀ t, x.c.looks o t → ∀ (q : Nat) (y : DIt), its[q]? = some y → y.c.dst = some t → (q < p ∧ prec B y.ix x.ix = true) ∨ (p ≤ q ∧ (p = q ∨ prec B x.ix y.ix = true))
  dst : ∀ (p q : Nat) (x y : DIt) (t : Nat), its[p]? = some x → its[q]? = some y → x.c.dst = some t → y.c.dst = some t → p = q
  quiet : ∀ (p : Nat) (x : DIt) (ks : List Nat), its[p]? = some x → x.kind = .quiet ks → quietC x.c.op = true ∧ ∀ τ, isStage its τ → τ ≤ its.length → τ ∈ ks ∨
    (∃ (q : Nat) (y : DIt), its[q]? = some y ∧ y.kind = .eff ∧ τ ≤ q ∧ prec B y.ix x.ix = true) ∨ (∃ (q : Nat) (y : DIt), its[q]? = some y ∧ y.kind = .eff ∧ q < τ ∧ prec B x.ix y.ix = true)
  alloc : ∀ (p : Nat) (x : DIt) (aid : Nat), isAl its p x aid → isA x.c.op = true ∧ aid < k ∧ ∀ (q : Nat) (y : DIt), its[q]? = some y → y.kind = .eff → p < q → prec B x.ix y.ix = true
  aid : ∀ (p q : Nat) (x y : DIt) (aid : Nat), isAl its p x aid → isAl its q y aid → p = q
  eff : ∀ (p q : Nat) (x y : DIt), its[p]? = some x → its[q]? = some y → x.kind = .eff → y.kind = .eff → p < q → prec B x.ix y.ix = true

end Go.Proofs.YtmppoknfekdbbaaDoor.Cm
