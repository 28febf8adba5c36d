/-
  The clean machine, part S: the model's code is turned into a clean one; functions; the table.
-/
import Derived.Test.YtmppoknfekdbbaaDoorCmXR
namespace Go.Proofs.YtmppoknfekdbbaaDoor.Cm
open Go.RowKit

/-- How a drawn region is to be gone through: the items in their order, the objects' number, for each operation what comes before it. -/
structure Plan where
  items : List (Nat × DK)
  k : Nat
  B : List Nat
  deriving Inhabited

def compGuard (ops : Array Oper) : Option (Nat × Bool) → Option (Option (Nat × Bool))
  | none => some none
  | some (j, want) => match (ops[j]?).bind (·.dst) with
    | some t => some (some (t, want))
    | none => none

def compOper (P : Program) (glb : Gl) (ops : Array Oper) (o : Oper) : Option COper :=
  match compOp P glb o.op, compGuard ops o.guard with
  | some co, some g => some ⟨o.dst, co, g⟩
  | none, some g => some ⟨o.dst, .dead, g⟩
  | _, none => none

theorem dead_good {P : Program} {glb : Gl} {o : Oper} : Good P glb o .dead := Sound.good (fun K ι h w a A hk H F r h' e _ => by simp [cop] at e) rfl

theorem compOper_R {P : Program} {glb : Gl} {ops : Array Oper} {o : Oper} {c : COper} (h : compOper P glb ops o = some c) : CoperR P glb ops o c := by
  unfold compOper at h
  split at h
  · next co g hco hg =>
    simp only [Option.some.injEq] at h; subst h
    refine ⟨rfl, compOp_good hco, ?_⟩
    unfold compGuard at hg
    split at hg
    · next ho => simp only [Option.some.injEq] at hg; subst hg; rw [ho]; trivial
    · next j want ho =>
      split at hg
      · next t ht => simp only [Option.some.injEq] at hg; subst hg; rw [ho]; exact ⟨rfl, ht⟩
      · simp at hg
  · next g hco hg =>
    simp only [Option.some.injEq] at h; subst h
    refine ⟨rfl, dead_good, ?_⟩
    unfold compGuard at hg
    split at hg
    · next ho => simp only [Option.some.injEq] at hg; subst hg; rw [ho]; trivial
    · next j want ho =>
      split at hg
      · next t ht => simp only [Option.some.injEq] at hg; subst hg; rw [ho]; exact ⟨rfl, ht⟩
      · simp at hg
  · simp at h

def compOpers (P : Program) (glb : Gl) (ops : Array Oper) : List Oper → Option (List COper)
  | [] => some []
  | o :: os => match compOper P glb ops o, compOpers P glb ops os with
    | some c, some cs => some (c :: cs)
    | _, _ => none

theorem compOpers_R {P : Program} {glb : Gl} {ops : Array Oper} : ∀ {os : List Oper} {cs : List COper}, compOpers P glb ops os = some cs → cs.length = os.length ∧ ∀ (j : Nat) (c : COper), cs[j]? = some c → ∃ o, os[j]? = some o ∧ CoperR P glb ops o c
  | [], cs, h => by simp only [compOpers, Option.some.injEq] at h; subst h; exact ⟨rfl, fun j c hc => by simp at hc⟩
  | o :: os, cs, h => by
    simp only [compOpers] at h
    split at h
    · next c cs' hc hcs =>
      simp only [Option.some.injEq] at h; subst h
      obtain ⟨h1, h2⟩ := compOpers_R hcs
      refine ⟨by simp [h1], fun j c' hj => ?_⟩
      cases j with
      | zero => simp at hj; subst hj; exact ⟨o, rfl, compOper_R hc⟩
      | succ j => simpa using h2 j c' (by simpa using hj)
    · simp at h

def compIts (P : Program) (glb : Gl) (ops : Array Oper) : List (Nat × DK) → Option (List DIt)
  | [] => some []
  | (i, kd) :: is => match ops[i]? with
    | some o => match compOper P glb ops o, compIts P glb ops is with
      | some c, some its => some (⟨i, c, kd⟩ :: its)
      | _, _ => none
    | none => none

theorem compIts_R {P : Program} {glb : Gl} {ops : Array Oper} : ∀ {is : List (Nat × DK)} {its : List DIt}, compIts P glb ops is = some its → ∀ (p : Nat) (x : DIt), its[p]? = some x → ∃ o, ops[x.ix]? = some o ∧ CoperR P glb ops o x.c
  | [], its, h, p, x, hx => by simp only [compIts, Option.some.injEq] at h; subst h; simp at hx
  | (i, kd) :: is, its, h, p, x, hx => by
    simp only [compIts] at h
    split at h
    · next o ho =>
      split at h
      · next c its' hc hits =>
        simp only [Option.some.injEq] at h; subst h
        cases p with
        | zero => simp at hx; subst hx; exact ⟨o, ho, compOper_R hc⟩
        | succ p => exact compIts_R hits p x (by simpa using hx)
      · simp at h
    · simp at h

/-! ### The check of a plan -/

theorem ble_lt {a b : Nat} (h : Nat.ble a b = true) : a ≤ b := by simpa using h
theorem blt_lt {a b : Nat} (h : Nat.blt a b = true) : a < b := Nat.blt_eq.mp h
theorem lt_blt {a b : Nat} (h : a < b) : Nat.blt a b = true := Nat.blt_eq.mpr h

def allIt (f : Nat → DIt → Bool) : Nat → List DIt → Bool
  | _, [] => true
  | p, x :: xs => f p x && allIt f (p + 1) xs

theorem allIt_spec {f : Nat → DIt → Bool} : ∀ {its : List DIt} {p : Nat}, allIt f p its = true → ∀ (i : Nat) (x : DIt), its[i]? = some x → f (p + i) x = true
  | [], _, _, i, x, hx => by simp at hx
  | y :: ys, p, h, i, x, hx => by
    simp only [allIt, Bool.and_eq_true] at h
    cases i with
    | zero => simp at hx; subst hx; exact h.1
    | succ i =>
      have := allIt_spec h.2 i x (by simpa using hx)
      rwa [show p + 1 + i = p + (i + 1) by omega] at this

def anyIt (f : Nat → DIt → Bool) : Nat → List DIt → Bool
  | _, [] => false
  | p, x :: xs => f p x || anyIt f (p + 1) xs

theorem anyIt_spec {f : Nat → DIt → Bool} : ∀ {its : List DIt} {p : Nat}, anyIt f p its = true → ∃ (i : Nat) (x : DIt), its[i]? = some x ∧ f (p + i) x = true
  | [], _, h => by simp [anyIt] at h
  | y :: ys, p, h => by
    simp only [anyIt, Bool.or_eq_true] at h
    rcases h with h | h
    · exact ⟨0, y, rfl, h⟩
    · obtain ⟨i, x, h1, h2⟩ := anyIt_spec h
      exact ⟨i + 1, x, by simpa using h1, by rwa [show p + (i + 1) = p + 1 + i by omega]⟩

def DK.isEff : DK → Bool
  | .eff => true
  | _ => false

def tmpsOf : List Operand → List Nat
  | [] => []
  | .tmp t :: xs => t :: tmpsOf xs
  | _ :: xs => tmpsOf xs

theorem mem_tmpsOf {t : Nat} : ∀ {xs : List Operand}, Operand.tmp t ∈ xs → t ∈ tmpsOf xs
  | .tmp u :: xs, h => by
    simp only [List.mem_cons, Operand.tmp.injEq] at h
    rcases h with rfl | h
    · simp [tmpsOf]
    · simp [tmpsOf, mem_tmpsOf h]
  | .const v :: xs, h => by simp only [List.mem_cons, reduceCtorEq, false_or] at h; exact mem_tmpsOf (xs := xs) h
  | .global g :: xs, h => by simp only [List.mem_cons, reduceCtorEq, false_or] at h; exact mem_tmpsOf (xs := xs) h
  | .func f :: xs, h => by simp only [List.mem_cons, reduceCtorEq, false_or] at h; exact mem_tmpsOf (xs := xs) h

def looksL (ops : Array Oper) (x : DIt) : List Nat :=
  (match x.c.guard with | some (t, _) => [t] | none => []) ++ (match ops[x.ix]? with | some o => tmpsOf o.op.operands.toList | none => [])

theorem mem_looksL {ops : Array Oper} {x : DIt} {o : Oper} (ho : ops[x.ix]? = some o) {t : Nat} (h : x.c.looks o t) : t ∈ looksL ops x := by
  unfold looksL
  rw [ho]
  rcases h with h | ⟨b, h⟩
  · simp [mem_tmpsOf h]
  · simp [h]

def dstIs (x : DIt) (t : Nat) : Bool := match x.c.dst with
  | some d => d == t
  | none => false

def pairB (B : List Nat) (L : List Nat) (p : Nat) (x : DIt) (q : Nat) (y : DIt) : Bool :=
  (p == q || (!(x.ix == y.ix) && (match x.c.dst with | some t => !dstIs y t | none => true) && (match x.kind, y.kind with
    | .alloc a, .alloc b => !(a == b)
    | .alloc _, .eff => !(Nat.blt p q) || prec B x.ix y.ix
    | .eff, .eff => !(Nat.blt p q) || prec B x.ix y.ix
    | _, _ => true))) &&
  (match y.c.dst with | some t => !L.contains t || (Nat.blt q p && prec B y.ix x.ix) || (Nat.ble p q && (p == q || prec B x.ix y.ix)) | none => true)

def stageB (B : List Nat) (its : List DIt) (x : DIt) (ks : List Nat) (τ : Nat) : Bool :=
  ks.contains τ || anyIt (fun q y => y.kind.isEff && Nat.ble τ q && prec B y.ix x.ix) 0 its || anyIt (fun q y => y.kind.isEff && Nat.blt q τ && prec B x.ix y.ix) 0 its

def itB (B : List Nat) (ops : Array Oper) (its : List DIt) (k : Nat) (p : Nat) (x : DIt) : Bool :=
  allIt (pairB B (looksL ops x) p x) 0 its && (match x.kind with
    | .quiet ks => quietC x.c.op && stageB B its x ks 0 && allIt (fun q y => !y.kind.isEff || stageB B its x ks (q + 1)) 0 its
    | .alloc aid => isA x.c.op && Nat.blt aid k
    | .eff => true)

def maskB (B : List Nat) : Nat → List Oper → Bool
  | _, [] => true
  | j, o :: os => (edgesOf o).all (fun e => Nat.blt e j) && (B.getD j 0 ||| maskOf B (edgesOf o)) == maskOf B (edgesOf o) && maskB B (j + 1) os

theorem maskB_spec {B : List Nat} : ∀ {os : List Oper} {j : Nat}, maskB B j os = true → ∀ (i : Nat) (o : Oper), os[i]? = some o → (∀ e ∈ edgesOf o, e < j + i) ∧ ∀ b, prec B b (j + i) = true → ∃ e ∈ edgesOf o, b = e ∨ prec B b e = true
  | [], _, _, i, o, ho => by simp at ho
  | o' :: os, j, h, i, o, ho => by
    simp only [maskB, Bool.and_eq_true] at h
    cases i with
    | zero =>
      simp at ho; subst ho
      refine ⟨fun e he => by have := List.all_eq_true.1 h.1.1 e he; simpa [Nat.blt_eq] using this, fun b hb => maskOf_spec B b _ ?_⟩
      have h2 := h.1.2
      simp only [beq_iff_eq] at h2
      rw [← h2, Nat.testBit_or]
      simp only [prec, Nat.add_zero] at hb
      rw [hb, Bool.true_or]
    | succ i =>
      have := maskB_spec h.2 i o (by simpa using ho)
      rwa [show j + 1 + i = j + (i + 1) by omega] at this

def drawB (B : List Nat) (ops : Array Oper) (its : List DIt) (k : Nat) : Bool :=
  maskB B 0 ops.toList && its.length == ops.size && (List.range ops.size).all (fun i => anyIt (fun _ x => x.ix == i) 0 its) && allIt (itB B ops its k) 0 its

theorem drawB_ok {P : Program} {glb : Gl} {ops : Array Oper} {its : List DIt} {k : Nat} {B : List Nat} (hr : ∀ (p : Nat) (x : DIt), its[p]? = some x → ∃ o, ops[x.ix]? = some o ∧ CoperR P glb ops o x.c) (h : drawB B ops its k = true) : DrawOk P glb ops its k B := by
  simp only [drawB, Bool.and_eq_true] at h
  obtain ⟨⟨⟨h1, h2⟩, h3⟩, h4⟩ := h
  have hit : ∀ (p : Nat) (x : DIt), its[p]? = some x → itB B ops its k p x = true := fun p x hx => by have := allIt_spec h4 p x hx; rwa [Nat.zero_add] at this
  have hpair : ∀ (p q : Nat) (x y : DIt), its[p]? = some x → its[q]? = some y → pairB B (looksL ops x) p x q y = true := fun p q x y hx hy => by
    have := hit p x hx
    simp only [itB, Bool.and_eq_true] at this
    have := allIt_spec this.1 q y hy
    rwa [Nat.zero_add] at this
  have hne : ∀ (p q : Nat) (x y : DIt), its[p]? = some x → its[q]? = some y → p ≠ q → x.ix ≠ y.ix ∧ (∀ t, x.c.dst = some t → y.c.dst ≠ some t) ∧ (match x.kind, y.kind with
    | .alloc a, .alloc b => !(a == b)
    | .alloc _, .eff => !(Nat.blt p q) || prec B x.ix y.ix
    | .eff, .eff => !(Nat.blt p q) || prec B x.ix y.ix
    | _, _ => true) = true := by
    intro p q x y hx hy hpq
    have := hpair p q x y hx hy
    simp only [pairB, Bool.and_eq_true, Bool.or_eq_true, beq_iff_eq, hpq, false_or, Bool.not_eq_true', beq_eq_false_iff_ne] at this
    refine ⟨this.1.1.1, fun t ht hy' => ?_, this.1.2⟩
    have h5 := this.1.1.2
    rw [ht] at h5
    simp [dstIs, hy'] at h5
  refine ⟨fun j o ho => ?_, fun p q x y hx hy he => ?_, fun i hi => ?_, fun p x hx => ?_, fun p q x y t hx hy htx hty => ?_, fun p x ks hx hk => ?_, fun p x aid ha => ?_, fun p q x y aid hx hy => ?_, fun p q x y hx hy hxe hye hlt => ?_⟩
  · have := maskB_spec h1 j o (by simpa using ho)
    simpa using this
  · rcases Nat.decEq p q with hpq | hpq
    · exact absurd he (hne p q x y hx hy hpq).1
    · exact hpq
  · have := List.all_eq_true.1 h3 i (by simpa using hi)
    obtain ⟨p, x, hx, hxi⟩ := anyIt_spec this
    exact ⟨p, x, hx, by simpa using hxi⟩
  · obtain ⟨o, ho, hR⟩ := hr p x hx
    refine ⟨o, ho, hR, fun t ht q y hy hd => ?_⟩
    have := hpair p q x y hx hy
    simp only [pairB, Bool.and_eq_true, hd, Bool.or_eq_true, Bool.not_eq_true'] at this
    have hc : (looksL ops x).contains t = true := by simpa using mem_looksL ho ht
    rcases this.2 with (h5 | h5) | h5
    · rw [hc] at h5; simp at h5
    · exact .inl ⟨blt_lt h5.1, h5.2⟩
    · exact .inr ⟨ble_lt h5.1, by simpa using h5.2⟩
  · rcases Nat.decEq p q with hpq | hpq
    · exact absurd hty ((hne p q x y hx hy hpq).2.1 t htx)
    · exact hpq
  · have := hit p x hx
    simp only [itB, hk, Bool.and_eq_true] at this
    refine ⟨this.2.1.1, fun τ hst _ => ?_⟩
    have hs : stageB B its x ks τ = true := by
      rcases hst with rfl | ⟨q, rfl, y, hy, hye⟩
      · exact this.2.1.2
      · have h5 := allIt_spec this.2.2 q y hy
        simpa [hye, DK.isEff] using h5
    simp only [stageB, Bool.or_eq_true] at hs
    have hie : ∀ {kd : DK}, kd.isEff = true → kd = .eff := fun {kd} h => by cases kd <;> simp [DK.isEff] at h; rfl
    rcases hs with (hs | hs) | hs
    · exact .inl (by simpa using hs)
    · obtain ⟨q, y, hy, h5⟩ := anyIt_spec hs
      simp only [Nat.zero_add, Bool.and_eq_true] at h5
      exact .inr (.inl ⟨q, y, hy, hie h5.1.1, ble_lt h5.1.2, h5.2⟩)
    · obtain ⟨q, y, hy, h5⟩ := anyIt_spec hs
      simp only [Nat.zero_add, Bool.and_eq_true] at h5
      exact .inr (.inr ⟨q, y, hy, hie h5.1.1, blt_lt h5.1.2, h5.2⟩)
  · have := hit p x ha.1
    simp only [itB, ha.2, Bool.and_eq_true] at this
    refine ⟨this.2.1, blt_lt this.2.2, fun q y hy hye hlt => ?_⟩
    have h5 := (hne p q x y ha.1 hy (by omega)).2.2
    rw [ha.2, hye] at h5
    simpa [lt_blt hlt] using h5
  · rcases Nat.decEq p q with hpq | hpq
    · have h5 := (hne p q x y hx.1 hy.1 hpq).2.2
      rw [hx.2, hy.2] at h5
      simp at h5
    · exact hpq
  · have h5 := (hne p q x y hx hy (by omega)).2.2
    rw [hxe, hye] at h5
    simpa [lt_blt hlt] using h5

/-! ### Code -/

def labelsOf : Code → List Nat
  | .seq a b => labelsOf a ++ labelsOf b
  | .label l => [l]
  | _ => []

mutual
def compCode (P : Program) (glb : Gl) : Nat → Code → List Plan → Option (CCode × List Plan)
  | 0, _, _ => none
  | n + 1, code, ps => match code with
    | .skip => some (.skip, ps)
    | .label _ => some (.skip, ps)
    | .region _ ops false => match compOpers P glb ops ops.toList with
      | some cs => some (.region cs, ps)
      | none => none
    | .region _ ops true => match ps with
      | p :: ps => match compIts P glb ops p.items with
        | some its => if drawB p.B ops its p.k then some (.draw its p.k, ps) else none
        | none => none
      | [] => none
    | .seq a b => match compCode P glb n a ps with
      | some (c, ps) => match compCode P glb n b ps with
        | some (d, ps) => some (.seq c d, ps)
        | none => none
      | none => none
    | .cond x a b => match compG glb x, compCode P glb n a ps with
      | some x, some (c, ps) => match compCode P glb n b ps with
        | some (d, ps) => some (.cond x c d, ps)
        | none => none
      | _, _ => none
    | .block id a => match compCode P glb n a ps with
      | some (c, ps) => some (.block id c, ps)
      | none => none
    | .loop a => match compCode P glb n a ps with
      | some (c, ps) => some (.loop c, ps)
      | none => none
    | .exit id => some (.exit id, ps)
    | .goto l => some (.goto l, ps)
    | .scope a => match compCode P glb n a ps with
      | some (c, ps) => match compRests P glb n a (labelsOf a) ps with
        | some (rs, ps) => some (.scope c rs, ps)
        | none => none
      | none => none
    | .ret => some (.ret, ps)
    | _ => some (.region [⟨none, .dead, none⟩], ps)
def compRests (P : Program) (glb : Gl) : Nat → Code → List Nat → List Plan → Option (List (Nat × CCode) × List Plan)
  | 0, _, _, _ => none
  | _ + 1, _, [], ps => some ([], ps)
  | n + 1, a, l :: ls, ps => match findLabel a l with
    | some q => match compCode P glb n q ps with
      | some (r, ps) => match compRests P glb n a ls ps with
        | some (rs, ps) => some ((l, r) :: rs, ps)
        | none => none
      | none => none
    | none => none
end

theorem Sim.dead {P : Program} {glb : Gl} {code : Code} : Sim P glb code (.region [⟨none, .dead, none⟩]) := by
  intro call hc n a h x a' h' e
  cases n with
  | zero => simp [evCode] at e
  | succ n => simp [evCode, evOps, evOper, evOp1, wantC, cop] at e

theorem compCode_both {P : Program} {glb : Gl} (hm : P.follows .mixedOrders = true) : ∀ (n : Nat),
    (∀ (code : Code) (ps : List Plan) (c : CCode) (ps' : List Plan), compCode P glb n code ps = some (c, ps') → Sim P glb code c) ∧
    (∀ (a : Code) (ls : List Nat) (ps : List Plan) (rs : List (Nat × CCode)) (ps' : List Plan), compRests P glb n a ls ps = some (rs, ps') → ∀ l r, findRest l rs = some r → ∃ q, findLabel a l = some q ∧ Sim P glb q r)
  | 0 => ⟨fun _ _ _ _ h => by simp [compCode] at h, fun _ _ _ _ _ h => by simp [compRests] at h⟩
  | n + 1 => by
    obtain ⟨ih1, ih2⟩ := compCode_both hm n
    refine ⟨fun code ps c ps' h => ?_, fun a ls ps rs ps' h => ?_⟩
    · cases code with
      | skip => simp only [compCode, Option.some.injEq, Prod.mk.injEq] at h; obtain ⟨rfl, _⟩ := h; exact Sim.skip
      | label l => simp only [compCode, Option.some.injEq, Prod.mk.injEq] at h; obtain ⟨rfl, _⟩ := h; exact Sim.label
      | exit id => simp only [compCode, Option.some.injEq, Prod.mk.injEq] at h; obtain ⟨rfl, _⟩ := h; exact Sim.exit
      | goto l => simp only [compCode, Option.some.injEq, Prod.mk.injEq] at h; obtain ⟨rfl, _⟩ := h; exact Sim.goto
      | ret => simp only [compCode, Option.some.injEq, Prod.mk.injEq] at h; obtain ⟨rfl, _⟩ := h; exact Sim.ret
      | region id ops draw =>
        cases draw with
        | false =>
          simp only [compCode] at h
          split at h
          · next cs hcs =>
            simp only [Option.some.injEq, Prod.mk.injEq] at h; obtain ⟨rfl, _⟩ := h
            obtain ⟨h1, h2⟩ := compOpers_R hcs
            exact Sim.region ⟨by simpa using h1, fun j c hj => by simpa using h2 j c hj⟩
          · simp at h
        | true =>
          cases ps with
          | nil => simp [compCode] at h
          | cons p ps =>
            simp only [compCode] at h
            split at h
            · next its hits =>
              split at h
              · next hd =>
                simp only [Option.some.injEq, Prod.mk.injEq] at h; obtain ⟨rfl, _⟩ := h
                exact Sim.draw hm (drawB_ok (compIts_R hits) hd)
              · simp at h
            · simp at h
      | seq a b =>
        simp only [compCode] at h
        split at h
        · next c₁ ps₁ h1 =>
          split at h
          · next d₁ ps₂ h2 =>
            simp only [Option.some.injEq, Prod.mk.injEq] at h; obtain ⟨rfl, _⟩ := h
            exact Sim.seq (ih1 _ _ _ _ h1) (ih1 _ _ _ _ h2)
          · simp at h
        · simp at h
      | cond x a b =>
        simp only [compCode] at h
        split at h
        · next x' c₁ ps₁ hx h1 =>
          split at h
          · next d₁ ps₂ h2 =>
            simp only [Option.some.injEq, Prod.mk.injEq] at h; obtain ⟨rfl, _⟩ := h
            exact Sim.cond hx (ih1 _ _ _ _ h1) (ih1 _ _ _ _ h2)
          · simp at h
        · simp at h
      | block id a =>
        simp only [compCode] at h
        split at h
        · next c₁ ps₁ h1 =>
          simp only [Option.some.injEq, Prod.mk.injEq] at h; obtain ⟨rfl, _⟩ := h
          exact Sim.block (ih1 _ _ _ _ h1)
        · simp at h
      | loop a =>
        simp only [compCode] at h
        split at h
        · next c₁ ps₁ h1 =>
          simp only [Option.some.injEq, Prod.mk.injEq] at h; obtain ⟨rfl, _⟩ := h
          exact Sim.loop (ih1 _ _ _ _ h1)
        · simp at h
      | scope a =>
        simp only [compCode] at h
        split at h
        · next c₁ ps₁ h1 =>
          split at h
          · next rs ps₂ h2 =>
            simp only [Option.some.injEq, Prod.mk.injEq] at h; obtain ⟨rfl, _⟩ := h
            exact Sim.scope (ih1 _ _ _ _ h1) (ih2 _ _ _ _ _ h2)
          · simp at h
        · simp at h
      | rangeFunc f params assign body => simp only [compCode, Option.some.injEq, Prod.mk.injEq] at h; obtain ⟨rfl, _⟩ := h; exact Sim.dead
      | refuse why => simp only [compCode, Option.some.injEq, Prod.mk.injEq] at h; obtain ⟨rfl, _⟩ := h; exact Sim.dead
    · cases ls with
      | nil =>
        simp only [compRests, Option.some.injEq, Prod.mk.injEq] at h; obtain ⟨rfl, _⟩ := h
        intro l r hl; simp [findRest] at hl
      | cons l ls =>
        simp only [compRests] at h
        split at h
        · next q hq =>
          split at h
          · next r₁ ps₁ h1 =>
            split at h
            · next rs₁ ps₂ h2 =>
              simp only [Option.some.injEq, Prod.mk.injEq] at h; obtain ⟨rfl, _⟩ := h
              intro l' r hl
              simp only [findRest] at hl
              split at hl
              · next e =>
                simp only [Option.some.injEq] at hl; subst hl
                simp at e; subst e
                exact ⟨q, hq, ih1 _ _ _ _ h1⟩
              · exact ih2 _ _ _ _ _ h2 l' r hl
            · simp at h
          · simp at h
        · simp at h

theorem compCode_sim {P : Program} {glb : Gl} (hm : P.follows .mixedOrders = true) {n : Nat} {code : Code} {ps : List Plan} {c : CCode} {ps' : List Plan} (h : compCode P glb n code ps = some (c, ps')) : Sim P glb code c :=
  (compCode_both hm n).1 code ps c ps' h

/-! ### Functions -/

def compRV (P : Program) : List ResultVar → Option (List CRV)
  | [] => some []
  | .tmp t :: rs => (compRV P rs).map (.tmp t :: ·)
  | .cell a ty :: rs => match tyAgg P ty, tySize P ty, compRV P rs with
    | some agg, some n, some cs => some (.cell a agg n :: cs)
    | _, _, _ => none

theorem compRV_R {P : Program} : ∀ {rs : List ResultVar} {cs : List CRV}, compRV P rs = some cs → CRVRs P rs cs
  | [], cs, h => by simp only [compRV, Option.some.injEq] at h; subst h; exact .nil
  | .tmp t :: rs, cs, h => by
    simp only [compRV] at h
    obtain ⟨cs', h1, rfl⟩ := Option.map_eq_some_iff.1 h
    exact .cons rfl (compRV_R h1)
  | .cell a ty :: rs, cs, h => by
    simp only [compRV] at h
    split at h
    · next agg n cs' h1 h2 h3 =>
      simp only [Option.some.injEq] at h; subst h
      exact .cons ⟨rfl, h1, h2⟩ (compRV_R h3)
    · simp at h

def compFunc (P : Program) (glb : Gl) (f : FuncId) (ps : List Plan) : Option CFunc :=
  match P.funcs[f]? with
  | some fn => match fn.body with
    | some code => if fn.name == "runtime.NumGoroutine" then none else
      match compCode P glb 1000 code ps, compRV P fn.results.toList with
      | some (c, _), some rs => some ⟨fn.ntmps, rs, c⟩
      | _, _ => none
    | none => none
  | none => none

theorem compFunc_R {P : Program} {glb : Gl} (hm : P.follows .mixedOrders = true) {f : FuncId} {ps : List Plan} {cf : CFunc} (h : compFunc P glb f ps = some cf) : FuncR P glb f cf := by
  unfold compFunc at h
  split at h
  · next fn hf =>
    split at h
    · next code hb =>
      split at h
      · simp at h
      · next hn =>
        split at h
        · next c ps' rs h1 h2 =>
          simp only [Option.some.injEq] at h; subst h
          exact ⟨fn, code, hf, hb, by simpa using hn, rfl, compRV_R h2, compCode_sim hm h1⟩
        · simp at h
    · simp at h
  · simp at h

/-! ### The table: a search tree -/

inductive FT where
  | leaf
  | node (f : Nat) (cf : CFunc) (l r : FT)

def FT.get : FT → Nat → Option CFunc
  | .leaf, _ => none
  | .node f cf l r, g => if g == f then some cf else if Nat.blt g f then l.get g else r.get g

def FT.Ok (P : Program) (glb : Gl) : FT → Prop
  | .leaf => True
  | .node f cf l r => FuncR P glb f cf ∧ l.Ok P glb ∧ r.Ok P glb

theorem FT.get_ok {P : Program} {glb : Gl} : ∀ {t : FT}, t.Ok P glb → ∀ {f : Nat} {cf : CFunc}, t.get f = some cf → FuncR P glb f cf
  | .leaf, _, f, cf, h => by simp [FT.get] at h
  | .node g cg l r, ⟨h1, h2, h3⟩, f, cf, h => by
    simp only [FT.get] at h
    split at h
    · next e => simp only [Option.some.injEq] at h; subst h; simp at e; subst e; exact h1
    · split at h
      · exact FT.get_ok h2 h
      · exact FT.get_ok h3 h

def FT.tab (t : FT) : Tab := ⟨t.get, fun _ => none⟩
theorem FT.tab_ok {P : Program} {glb : Gl} {t : FT} (h : t.Ok P glb) : TabOk P glb t.tab := ⟨fun _ _ e => FT.get_ok h e, fun _ _ e => by simp [FT.tab] at e⟩

end Go.Proofs.YtmppoknfekdbbaaDoor.Cm
