/-
  The clean machine, part YA: the condition of a region whose order is drawn, that reduces by itself.
-/
import Derived.Test.YtmppoknfekdbbaaDoorCmXZ
namespace Go.Proofs.YtmppoknfekdbbaaDoor.Cm
open Go.RowKit

inductive NUMN (x : Nat) (K : Nat → Prop) : Prop where
  | mk {n : Nat} (e : x = n) (k : K n)
/-- The same is read from another heap. -/
inductive LOOKN (N : Nat) (op : COp) (ρ : Env) (h : Heap) (v : CVal) (A : Prop) : Prop where
  | mk (e : cop op (envL N ρ) h = some (.val v, h)) (a : A)

structure Pend where
  k : Nat
  op : COp
  ρ : Env
  v : CVal

noncomputable def pendK (N p : Nat) (h : Heap) (qs : List Pend) (A : Prop) : Prop :=
  List.rec (motive := fun _ => Prop) A (fun q _ ih => match Nat.beq q.k p with
    | true => LOOKN N q.op q.ρ h q.v ih
    | false => ih) qs
/-- At the end: nothing is left. -/
noncomputable def pendE (N p : Nat) (h : Heap) (qs : List Pend) (A : Prop) : Prop :=
  List.rec (motive := fun _ => Prop) A (fun q _ ih => match Nat.beq q.k p with
    | true => LOOKN N q.op q.ρ h q.v ih
    | false => (match Nat.blt q.k p with
      | true => ih
      | false => False)) qs
noncomputable def pastK (N p : Nat) (hist : Nat → Heap) (op : COp) (ρ : Env) (v : CVal) (ks : List Nat) (A : Prop) : Prop :=
  List.rec (motive := fun _ => Prop) A (fun k _ ih => match Nat.blt k p with
    | true => LOOKN N op ρ (hist k) v ih
    | false => ih) ks
noncomputable def futP (p : Nat) (op : COp) (ρ : Env) (v : CVal) (ks : List Nat) (ps : List Pend) : List Pend :=
  List.rec (motive := fun _ => List Pend) ps (fun k _ ih => match Nat.blt p k with
    | true => ⟨k, op, ρ, v⟩ :: ih
    | false => ih) ks

theorem pendK_out {N p : Nat} {h : Heap} {A : Prop} : ∀ {qs : List Pend}, pendK N p h qs A → A ∧ ∀ q ∈ qs, q.k = p → cop q.op (envL N q.ρ) h = some (.val q.v, h)
  | [], k => ⟨k, fun _ m => by simp at m⟩
  | q :: qs, k => by
    have k : (match Nat.beq q.k p with | true => LOOKN N q.op q.ρ h q.v (pendK N p h qs A) | false => pendK N p h qs A) := k
    split at k
    · obtain ⟨e, k⟩ := k
      obtain ⟨a, r⟩ := pendK_out k
      refine ⟨a, fun q' m hq => ?_⟩
      rcases List.mem_cons.1 m with rfl | m
      · exact e
      · exact r q' m hq
    · next hb =>
      obtain ⟨a, r⟩ := pendK_out k
      refine ⟨a, fun q' m hq => ?_⟩
      rcases List.mem_cons.1 m with rfl | m
      · exact (Nat.ne_of_beq_eq_false hb hq).elim
      · exact r q' m hq

theorem pendE_out {N p : Nat} {h : Heap} {A : Prop} : ∀ {qs : List Pend}, pendE N p h qs A → A ∧ ∀ q ∈ qs, p ≤ q.k → q.k = p ∧ cop q.op (envL N q.ρ) h = some (.val q.v, h)
  | [], k => ⟨k, fun _ m => by simp at m⟩
  | q :: qs, k => by
    have k : (match Nat.beq q.k p with | true => LOOKN N q.op q.ρ h q.v (pendE N p h qs A) | false => (match Nat.blt q.k p with | true => pendE N p h qs A | false => False)) := k
    split at k
    · next hb =>
      obtain ⟨e, k⟩ := k
      obtain ⟨a, r⟩ := pendE_out k
      refine ⟨a, fun q' m hq => ?_⟩
      rcases List.mem_cons.1 m with rfl | m
      · exact ⟨Nat.eq_of_beq_eq_true hb, e⟩
      · exact r q' m hq
    · split at k
      · next hl =>
        obtain ⟨a, r⟩ := pendE_out k
        refine ⟨a, fun q' m hq => ?_⟩
        rcases List.mem_cons.1 m with rfl | m
        · exact absurd (blt_lt hl) (Nat.not_lt.2 hq)
        · exact r q' m hq
      · exact k.elim

theorem pastK_out {N p : Nat} {hist : Nat → Heap} {op : COp} {ρ : Env} {v : CVal} {A : Prop} : ∀ {ks : List Nat}, pastK N p hist op ρ v ks A → A ∧ ∀ k ∈ ks, k < p → cop op (envL N ρ) (hist k) = some (.val v, hist k)
  | [], k => ⟨k, fun _ m => by simp at m⟩
  | k₀ :: ks, k => by
    have k : (match Nat.blt k₀ p with | true => LOOKN N op ρ (hist k₀) v (pastK N p hist op ρ v ks A) | false => pastK N p hist op ρ v ks A) := k
    split at k
    · obtain ⟨e, k⟩ := k
      obtain ⟨a, r⟩ := pastK_out k
      refine ⟨a, fun q' m hq => ?_⟩
      rcases List.mem_cons.1 m with rfl | m
      · exact e
      · exact r q' m hq
    · next hb =>
      obtain ⟨a, r⟩ := pastK_out k
      refine ⟨a, fun q' m hq => ?_⟩
      rcases List.mem_cons.1 m with rfl | m
      · rw [lt_blt hq] at hb; simp at hb
      · exact r q' m hq

theorem futP_mem {p : Nat} {op : COp} {ρ : Env} {v : CVal} {ps : List Pend} : ∀ {ks : List Nat}, (∀ q ∈ ps, q ∈ futP p op ρ v ks ps) ∧ ∀ k ∈ ks, p < k → (⟨k, op, ρ, v⟩ : Pend) ∈ futP p op ρ v ks ps
  | [] => ⟨fun _ m => m, fun _ m => by simp at m⟩
  | k₀ :: ks => by
    obtain ⟨r1, r2⟩ := futP_mem (p := p) (op := op) (ρ := ρ) (v := v) (ps := ps) (ks := ks)
    have e : futP p op ρ v (k₀ :: ks) ps = (match Nat.blt p k₀ with | true => ⟨k₀, op, ρ, v⟩ :: futP p op ρ v ks ps | false => futP p op ρ v ks ps) := rfl
    rw [e]
    split
    · refine ⟨fun q m => List.mem_cons_of_mem _ (r1 q m), fun k m hk => ?_⟩
      rcases List.mem_cons.1 m with rfl | m
      · exact List.mem_cons_self ..
      · exact List.mem_cons_of_mem _ (r2 k m hk)
    · next hb =>
      refine ⟨r1, fun k m hk => ?_⟩
      rcases List.mem_cons.1 m with rfl | m
      · rw [lt_blt hk] at hb; simp at hb
      · exact r2 k m hk

def callOp : COp → Bool
  | .call .. => true
  | .defer .. => true
  | _ => false
theorem cop_call {op : COp} (hc : callOp op = false) {a : List CVal} {h h' : Heap} {g : FuncId} {as : List CVal} : cop op a h ≠ some (.enter g as, h') := by
  cases op <;> simp only [callOp, Bool.true_eq_false] at hc <;> simp only [cop] <;> (repeat' split) <;> simp

/-- An object's making. -/
def allocK (N : Nat) (op : COp) (ρ : Env) (id : Nat) (K : CVal → CObj → Prop) : Prop := match op with
  | .new zero => K (.ptr id 0) (.cells zero true none)
  | .box x => SM (x.on N ρ).cellsOf fun cs => argsK cs fun cs => K (.ptr id 0) (.cells cs true none)
  | .buildSlice zero len parts => SM (fillC (repC len zero) (parts.map fun p => (p.1, p.2.1, p.2.2.on N ρ))) fun cs => argsK cs fun cs => DOESN (cs.all CVal.one = true) (K (.slice id 0 len len) (.cells cs true none))
  | .newMap => K (.map id) (.map [] true)
  | .makeSlice zero bytes l c => (match l.on N ρ with
    | .int _ a => (match c.on N ρ with
      | .int _ b => DOESN (0 ≤ a ∧ a ≤ b ∧ b * bytes ≤ 1099511627776 ∧ b ≤ 1099511627776) (K (.slice id 0 a.toNat b.toNat) (.cells (repC b.toNat zero) true none))
      | _ => False)
    | _ => False)
  | _ => False
theorem allocK_out {N : Nat} {op : COp} {ρ : Env} {id : Nat} {K : CVal → CObj → Prop} (q : allocK N op ρ id K) : ∃ v obj, allocC op (envL N ρ) id = some (v, obj) ∧ K v obj := by
  unfold allocK at q
  split at q
  · exact ⟨_, _, rfl, q⟩
  · obtain ⟨cs, e, q⟩ := SM.out q
    exact ⟨_, _, by simp only [allocC, CX.on_ev, e], argsK_out q⟩
  · obtain ⟨cs, e, q⟩ := SM.out q
    obtain ⟨p, q⟩ := argsK_out q
    exact ⟨_, _, by simp only [allocC, CX.on_ev, e]; rw [if_pos p], q⟩
  · exact ⟨_, _, rfl, q⟩
  · next zero bytes l c =>
    split at q
    · next k a hl =>
      split at q
      · next k' b hc =>
        obtain ⟨p, q⟩ := q
        refine ⟨_, _, ?_, q⟩
        have h1 : 0 ≤ b := by omega
        have h2 : b.toNat * bytes ≤ 1099511627776 := by
          have e2 : ((b.toNat * bytes : Nat) : Int) ≤ ((1099511627776 : Nat) : Int) := by
            rw [Int.natCast_mul, Int.toNat_of_nonneg h1]; exact p.2.2.1
          exact Int.ofNat_le.mp e2
        simp only [allocC, CX.on_ev, hl, hc, asNat]
        rw [if_pos p.1, if_pos h1]
        simp only
        rw [if_pos ⟨by omega, h2, by omega⟩]
      · exact q.elim
    · exact q.elim
  · exact q.elim

def dstNe (d : Option Nat) (t : Nat) : Bool := match d with
  | none => true
  | some s => (match Nat.beq s t with
    | true => false
    | false => true)
noncomputable def lateIn (t : Nat) (its : List DIt) : Bool := List.rec (motive := fun _ => Bool) true (fun it _ ih => match dstNe it.c.dst t with
    | true => ih
    | false => false) its
noncomputable def lateNe (N : Nat) (d : Option Nat) (its : List DIt) : Bool := match d with
  | none => true
  | some t => (match Nat.blt t N with
    | true => lateIn t its
    | false => false)
noncomputable def allLe (n : Nat) (ks : List Nat) : Bool := List.rec (motive := fun _ => Bool) true (fun k _ ih => match Nat.ble k n with
    | true => ih
    | false => false) ks
theorem allLe_out {n : Nat} : ∀ {ks : List Nat}, allLe n ks = true → ∀ k ∈ ks, k ≤ n
  | [], _, _, m => by simp at m
  | k₀ :: ks, e, k, m => by
    have e : (match Nat.ble k₀ n with | true => allLe n ks | false => false) = true := e
    split at e
    · next hb =>
      rcases List.mem_cons.1 m with rfl | m
      · exact Nat.le_of_ble_eq_true hb
      · exact allLe_out e k m
    · simp at e

def onlyIf (b : Bool) (A : Prop) : Prop := match b with
  | true => A
  | false => False
theorem onlyIf_out {b : Bool} {A : Prop} (q : onlyIf b A) : b = true ∧ A := by
  cases b
  · exact q.elim
  · exact ⟨rfl, q⟩

abbrev DRun := Nat → (Nat → Heap) → List Pend → Env → DS → Heap → (Env → DS → Heap → Prop) → Prop

/-- What is only read. -/
noncomputable def quietK (T : Tab) (N : Nat) (c : COper) (ks : List Nat) (ih : DRun) (p : Nat) (hist : Nat → Heap) (pend : List Pend) (ρ : Env) (ds : DS) (h : Heap) (K : Env → DS → Heap → Prop) : Prop :=
  opK T N c.op ρ h fun v _ => match freeOp c.op with
    | true => ih (p + 1) (fun k => match Nat.beq k p with | true => h | false => hist k) pend (ρ.putO c.dst v) ds h K
    | false => pastK N p hist c.op ρ v ks (ih (p + 1) (fun k => match Nat.beq k p with | true => h | false => hist k) (futP p c.op ρ v ks pend) (ρ.putO c.dst v) ds h K)

noncomputable def wD1 (T : Tab) (N base n : Nat) (it : DIt) (its : List DIt) (ih : DRun) : DRun := fun p hist pend ρ ds h K =>
  pendK N p h pend (match it.kind with
    | .quiet ks => onlyIf (lateNe N it.c.dst its) (onlyIf (allLe n ks) (onlyIf (!callOp it.c.op) (match it.c.guard with
      | none => quietK T N it.c ks ih p hist pend ρ ds h K
      | some g => (match (CX.t g.1).on N ρ with
        | .bool b => BC b
          (match g.2 with
            | true => quietK T N it.c ks ih p hist pend ρ ds h K
            | false => ih (p + 1) (fun k => match Nat.beq k p with | true => h | false => hist k) pend (ρ.putO it.c.dst .un) ds h K)
          (match g.2 with
            | true => ih (p + 1) (fun k => match Nat.beq k p with | true => h | false => hist k) pend (ρ.putO it.c.dst .un) ds h K
            | false => quietK T N it.c ks ih p hist pend ρ ds h K)
        | .tuple [] => ih (p + 1) (fun k => match Nat.beq k p with | true => h | false => hist k) pend (ρ.putO it.c.dst .un) ds h K
        | _ => False))))
    | .alloc aid => (match it.c.guard with
      | none => NUMN (base + aid) fun id => allocK N it.c.op ρ id fun v obj => ih (p + 1) (fun k => match Nat.beq k p with | true => h | false => hist k) pend (ρ.putO it.c.dst v) ds (h.set id obj) K
      | some _ => False)
    | .eff => wO1 T N it.c (fun ρ' ds' h' _ => ih (p + 1) (fun k => match Nat.beq k p with | true => h | false => hist k) pend ρ' ds' h' K) ρ ds h K)

noncomputable def wD (T : Tab) (N base n : Nat) (its : List DIt) : DRun :=
  List.rec (motive := fun _ => DRun) (fun p _ pend ρ ds h K => pendE N p h pend (K ρ ds h)) (fun it its ih => wD1 T N base n it its ih) its

theorem lateIn_out {t : Nat} : ∀ {its : List DIt}, lateIn t its = true → ∀ it ∈ its, it.c.dst ≠ some t
  | [], _, _, m => by simp at m
  | i₀ :: its, e, it, m => by
    have e : (match dstNe i₀.c.dst t with | true => lateIn t its | false => false) = true := e
    split at e
    · next hb =>
      rcases List.mem_cons.1 m with rfl | m
      · intro hd
        rw [hd] at hb
        simp only [dstNe] at hb
        split at hb
        · simp at hb
        · next h2 => exact Nat.ne_of_beq_eq_false h2 rfl
      · exact lateIn_out e it m
    · simp at e
theorem lateNe_out {N t : Nat} {its : List DIt} (e : lateNe N (some t) its = true) : Nat.blt t N = true ∧ ∀ it ∈ its, it.c.dst ≠ some t := by
  simp only [lateNe] at e
  split at e
  · next h => exact ⟨h, lateIn_out e⟩
  · simp at e

/-- The conclusion of a drawn region's run. -/
def DQ (N : Nat) (its : List DIt) (pre : List (Fr × Heap)) (pend : List Pend) (p : Nat) (ρ : Env) (K : Env → DS → Heap → Prop) : Fr → Heap → List (Fr × Heap) → Prop := fun a' h' hs =>
  hs.length = its.length + 1 ∧ checkD a'.tmps (pre ++ hs) its hs = true ∧ (∀ q ∈ pend, p ≤ q.k → ∃ f h₁, (pre ++ hs)[q.k]? = some (f, h₁) ∧ cop q.op (envL N q.ρ) h₁ = some (.val q.v, h₁)) ∧
  ∃ ρ' ds', a' = ⟨envL N ρ', ds'⟩ ∧ (∀ t, (∀ it ∈ its, it.c.dst ≠ some t) → (CX.t t).on N ρ' = (CX.t t).on N ρ) ∧ K ρ' ds' h'

theorem on_put_ne (N : Nat) (ρ : Env) (d : Option Nat) (v : CVal) (t : Nat) (h : d ≠ some t) : (CX.t t).on N (ρ.putO d v) = (CX.t t).on N ρ := by
  cases d with
  | none => rfl
  | some s =>
    have : t ≠ s := fun e => h (by rw [e])
    simp only [CX.on, Env.putO, Env.put_at, if_neg this]
theorem on_put_eq (N : Nat) (ρ : Env) (s : Nat) (v : CVal) (h : Nat.blt s N = true) : (CX.t s).on N (ρ.putO (some s) v) = v := by
  simp only [CX.on, h, if_true, Env.putO, Env.put_at]

theorem wO1_eff {T : Tab} {N : Nat} {o : COper} {R : Env → DS → Heap → Prop} {ρ : Env} {ds : DS} {h : Heap} {K : Env → DS → Heap → Prop} (q : wO1 T N o (fun ρ' ds' h' _ => R ρ' ds' h') ρ ds h K) :
    wO T N [o] ρ ds h (fun ρ' ds' h' => (∃ v, ρ' = ρ.putO o.dst v) ∧ R ρ' ds' h') := by
  have e : ∀ v ds' h', ((∃ v', ρ.putO o.dst v = ρ.putO o.dst v') ∧ R (ρ.putO o.dst v) ds' h') = R (ρ.putO o.dst v) ds' h' := by
    intro v ds' h'
    exact propext ⟨fun k => k.2, fun k => ⟨⟨v, rfl⟩, k⟩⟩
  rw [wO_cons]
  unfold wO1 at q ⊢
  simp only [wO_nil, e]
  exact q

theorem wD_ok {T : Tab} {N base n : Nat} {K : Env → DS → Heap → Prop} : ∀ {its : List DIt} {p : Nat} {hist : Nat → Heap} {pend : List Pend} {ρ : Env} {ds : DS} {h : Heap} {pre : List (Fr × Heap)}, pre.length = p → n = p + its.length → (∀ k, k < p → ∃ f, pre[k]? = some (f, hist k)) →
    wD T N base n its p hist pend ρ ds h K → WPD T base its ⟨envL N ρ, ds⟩ h (DQ N its pre pend p ρ K)
  | [], p, hist, pend, ρ, ds, h, pre, hp, _, _, q => by
    obtain ⟨k, r⟩ := pendE_out q
    refine WPD.nil ⟨rfl, rfl, fun q m hq => ?_, ρ, ds, rfl, fun _ _ => rfl, k⟩
    obtain ⟨e, c⟩ := r q m hq
    exact ⟨_, h, by rw [e, List.getElem?_append_right (by omega), hp, Nat.sub_self]; rfl, c⟩
  | it :: its, p, hist, pend, ρ, ds, h, pre, hp, hn, hh, q => by
    have hlen : (it :: its).length = its.length + 1 := rfl
    obtain ⟨q, now⟩ := pendK_out (show pendK N p h pend _ from q)
    -- the stages that lie behind, with this one
    let hist' : Nat → Heap := fun k => match Nat.beq k p with | true => h | false => hist k
    have hh' : ∀ k, k < p + 1 → ∃ f, (pre ++ [((⟨envL N ρ, ds⟩ : Fr), h)])[k]? = some (f, hist' k) := by
      intro k hk
      by_cases e : k = p
      · subst e
        refine ⟨⟨envL N ρ, ds⟩, ?_⟩
        have hb : Nat.beq k k = true := by simp
        rw [List.getElem?_append_right (by omega), hp, Nat.sub_self]
        simp only [hist', hb]; rfl
      · obtain ⟨f, hf⟩ := hh k (by omega)
        refine ⟨f, ?_⟩
        have hb : Nat.beq k p = false := by
          cases hq : Nat.beq k p
          · rfl
          · exact (e (Nat.eq_of_beq_eq_true hq)).elim
        rw [List.getElem?_append_left (by omega)]
        simp only [hist', hb]; exact hf
    -- the rest's run, with what this item asks
    have rest : ∀ {pend' : List Pend} {ρ' : Env} {ds' : DS} {h' : Heap} {a₀ : Fr} (_ : a₀ = ⟨envL N ρ, ds⟩), (∀ q ∈ pend, q ∈ pend') → (∀ t, it.c.dst ≠ some t → (CX.t t).on N ρ' = (CX.t t).on N ρ) →
        (∀ (out : List CVal) (hs : List (Fr × Heap)) (ρo : Env), hs.length = its.length + 1 → out = envL N ρo → (∀ t, (∀ x ∈ its, x.c.dst ≠ some t) → (CX.t t).on N ρo = (CX.t t).on N ρ') →
          (∀ q ∈ pend', p + 1 ≤ q.k → ∃ f h₁, (pre ++ (⟨envL N ρ, ds⟩, h) :: hs)[q.k]? = some (f, h₁) ∧ cop q.op (envL N q.ρ) h₁ = some (.val q.v, h₁)) →
          (match it.kind with | .quiet ks => ks.all (checkQ it.c (envL N ρ) out (pre ++ (⟨envL N ρ, ds⟩, h) :: hs)) | _ => true) = true) →
        wD T N base n its (p + 1) hist' pend' ρ' ds' h' K → WPD T base its ⟨envL N ρ', ds'⟩ h' fun a' h'' hs => DQ N (it :: its) pre pend p ρ K a' h'' ((a₀, h) :: hs) := by
      intro pend' ρ' ds' h' a₀ ha sub same chk w
      subst ha
      have w := wD_ok (pre := pre ++ [((⟨envL N ρ, ds⟩ : Fr), h)]) (by simp [hp]) (by rw [hn, hlen]; omega) hh' w
      obtain ⟨m, a', h'', hs, ev, hl, hck, hpd, ρo, dso, rfl, hsame, hK⟩ := w
      have ap : pre ++ [((⟨envL N ρ, ds⟩ : Fr), h)] ++ hs = pre ++ (⟨envL N ρ, ds⟩, h) :: hs := by simp
      rw [ap] at hck hpd
      refine ⟨m, _, h'', hs, ev, by simp [hl], ?_, fun q m hq => ?_, ρo, dso, rfl, fun t ht => ?_, hK⟩
      · have c1 := chk (envL N ρo) hs ρo hl rfl hsame hpd
        simp only [checkD, hck, Bool.and_true]
        cases hk : it.kind with
        | quiet ks => simp only [hk] at c1; simpa using c1
        | alloc _ => rfl
        | eff => rfl
      · by_cases e : q.k = p
        · refine ⟨⟨envL N ρ, ds⟩, h, ?_, now q m e⟩
          rw [e, List.getElem?_append_right (by omega), hp, Nat.sub_self]; rfl
        · exact hpd q (sub q m) (by omega)
      · rw [hsame t fun x hx => ht x (List.mem_cons_of_mem _ hx)]
        exact same t (ht it (List.mem_cons_self ..))
    obtain ⟨ix, c, kind⟩ := it
    cases kind with
    | quiet ks =>
      obtain ⟨hlate, q⟩ := onlyIf_out q
      obtain ⟨hle, q⟩ := onlyIf_out q
      obtain ⟨hcall, q⟩ := onlyIf_out q
      have hcall : callOp c.op = false := by simpa using hcall
      -- the check of a value that is the same at each stage asked for
      have fin : ∀ {v : CVal} {h₁' : Heap}, evOp1 noCall c (envL N ρ) h = some (v, [], h₁') → ∀ (out : List CVal) (hs : List (Fr × Heap)) (ρo : Env), hs.length = its.length + 1 → out = envL N ρo → (∀ t, (∀ x ∈ its, x.c.dst ≠ some t) → (CX.t t).on N ρo = (CX.t t).on N (ρ.putO c.dst v)) →
          (∀ k ∈ ks, ∀ f h₁, (pre ++ (⟨envL N ρ, ds⟩, h) :: hs)[k]? = some (f, h₁) → ∃ h₂, evOp1 noCall c (envL N ρ) h₁ = some (v, [], h₂)) → ks.all (checkQ c (envL N ρ) out (pre ++ (⟨envL N ρ, ds⟩, h) :: hs)) = true := by
        intro v h₁' e0 out hs ρo hl hout hsame hev
        refine List.all_eq_true.2 fun k hk => ?_
        have hkn := allLe_out hle k hk
        have hlt : k < (pre ++ ((⟨envL N ρ, ds⟩ : Fr), h) :: hs).length := by
          rw [hlen] at hn
          simp only [List.length_append, List.length_cons, hl, hp]; omega
        obtain ⟨⟨f, h₁⟩, hg⟩ : ∃ x, (pre ++ ((⟨envL N ρ, ds⟩ : Fr), h) :: hs)[k]? = some x := ⟨_, List.getElem?_eq_getElem hlt⟩
        obtain ⟨h₂, he⟩ := hev k hk f h₁ hg
        simp only [checkQ, hg, he]
        cases hd : c.dst with
        | none => rfl
        | some d =>
          simp only
          have e2 : (envL N ρo).getD d .undef = (CX.t d).on N ρo := CX.on_ev N ρo (.t d)
          obtain ⟨hN, hla⟩ := lateNe_out (show lateNe N (some d) its = true from hd ▸ hlate)
          rw [hout, e2, hsame d hla, hd, on_put_eq N ρ d v hN]
          exact CVal.beq_refl v
      have put : ∀ v, Fr.put ⟨envL N ρ, ds⟩ c.dst v = ⟨envL N (ρ.putO c.dst v), ds⟩ := fun v => done_env N ρ ds [] c.dst v
      have skip : (∀ h₁, evOp1 noCall c (envL N ρ) h₁ = some (.un, [], h₁)) → wD T N base n its (p + 1) hist' pend (ρ.putO c.dst .un) ds h K → WPD T base (⟨ix, c, .quiet ks⟩ :: its) ⟨envL N ρ, ds⟩ h (DQ N (⟨ix, c, .quiet ks⟩ :: its) pre pend p ρ K) := by
        intro e w
        refine WPD.quiet (e h) fun _ => ?_
        rw [put]
        exact rest rfl (fun _ m => m) (fun t ht => on_put_ne N ρ c.dst _ t ht) (fun out hs ρo hl hout hsame _ => fin (e h) out hs ρo hl hout hsame fun k _ f h₁ _ => ⟨_, e h₁⟩) w
      have run : wantC (envL N ρ) c.guard = some true → quietK T N c ks (wD T N base n its) p hist pend ρ ds h K → WPD T base (⟨ix, c, .quiet ks⟩ :: its) ⟨envL N ρ, ds⟩ h (DQ N (⟨ix, c, .quiet ks⟩ :: its) pre pend p ρ K) := by
        intro hw w
        rcases opK_out w with ⟨v, h', e, w⟩ | ⟨g, as, e, _⟩
        · have e0 : evOp1 noCall c (envL N ρ) h = some (v, [], h') := by simp only [evOp1, hw, e]
          refine WPD.quiet e0 fun _ => ?_
          rw [put]
          split at w
          · next hf =>
            refine rest rfl (fun _ m => m) (fun t ht => on_put_ne N ρ c.dst _ t ht) (fun out hs ρo hl hout hsame _ => fin e0 out hs ρo hl hout hsame fun k _ f h₁ _ => ?_) w
            obtain ⟨d, op, g⟩ := c
            exact ⟨_, evOp1_free hf e0⟩
          · next hf =>
            obtain ⟨w, past⟩ := pastK_out w
            refine rest rfl (futP_mem.1) (fun t ht => on_put_ne N ρ c.dst _ t ht) (fun out hs ρo hl hout hsame hpd => fin e0 out hs ρo hl hout hsame fun k hk f h₁ hg => ?_) w
            rcases Nat.lt_trichotomy k p with hkp | hkp | hkp
            · obtain ⟨f', hf'⟩ := hh k hkp
              have : (pre ++ ((⟨envL N ρ, ds⟩ : Fr), h) :: hs)[k]? = some (f', hist k) := by rw [List.getElem?_append_left (by omega)]; exact hf'
              rw [this] at hg
              simp only [Option.some.injEq, Prod.mk.injEq] at hg
              obtain ⟨_, rfl⟩ := hg
              exact ⟨hist k, by simp only [evOp1, hw, past k hk hkp]⟩
            · have : (pre ++ ((⟨envL N ρ, ds⟩ : Fr), h) :: hs)[k]? = some (⟨envL N ρ, ds⟩, h) := by rw [List.getElem?_append_right (by omega), hkp, hp, Nat.sub_self]; rfl
              rw [this] at hg
              simp only [Option.some.injEq, Prod.mk.injEq] at hg
              obtain ⟨_, rfl⟩ := hg
              exact ⟨_, e0⟩
            · obtain ⟨f', h₂, hg', hc⟩ := hpd ⟨k, c.op, ρ, v⟩ (futP_mem.2 k hk hkp) hkp
              rw [hg'] at hg
              simp only [Option.some.injEq, Prod.mk.injEq] at hg
              obtain ⟨_, rfl⟩ := hg
              exact ⟨h₂, by simp only [evOp1, hw, hc]⟩
        · exact (cop_call hcall e).elim
      split at q
      · next hg => exact run (by show wantC _ c.guard = _; rw [show c.guard = none from hg]; rfl) q
      · next g hg =>
        obtain ⟨t, w⟩ := g
        have hg : c.guard = some (t, w) := hg
        split at q
        · next b hb =>
          have hv : (envL N ρ).getD t .undef = .bool b := (CX.on_ev N ρ (.t t)).trans hb
          cases b <;> cases w
          · exact run (by simp only [hg, wantC, hv, beq_self_eq_true]) q
          · exact skip (fun h₁ => by simp only [evOp1, hg, wantC, hv]; rfl) q
          · exact skip (fun h₁ => by simp only [evOp1, hg, wantC, hv]; rfl) q
          · exact run (by simp only [hg, wantC, hv, beq_self_eq_true]) q
        · next hb =>
          have hv : (envL N ρ).getD t .undef = .tuple [] := (CX.on_ev N ρ (.t t)).trans hb
          exact skip (fun h₁ => by simp only [evOp1, hg, wantC, hv]) q
        · exact q.elim
    | alloc aid =>
      simp only at q
      split at q
      · next hg =>
        obtain ⟨e, q⟩ := q
        obtain ⟨v, obj, ea, q⟩ := allocK_out q
        subst e
        obtain ⟨d, op, g⟩ := c
        have hg : g = none := hg
        subst hg
        refine WPD.alloc ea ?_
        have put : Fr.put ⟨envL N ρ, ds⟩ d v = ⟨envL N (ρ.putO d v), ds⟩ := done_env N ρ ds [] d v
        rw [put]
        exact rest rfl (fun _ m => m) (fun t ht => on_put_ne N ρ d _ t ht) (fun _ _ _ _ _ _ _ => rfl) q
      · exact q.elim
    | eff =>
      refine WPD.eff ?_
      have q := wO_ok (wO1_eff q)
      obtain ⟨m, a', h', ev, ρ', ds', rfl, ⟨v, rfl⟩, w⟩ := q
      exact ⟨m, _, h', ev, rest rfl (fun _ m => m) (fun t ht => on_put_ne N ρ c.dst v t ht) (fun _ _ _ _ _ _ _ => rfl) w⟩

/-- A region whose order is drawn. -/
def Heap.room (h : Heap) : Nat → Heap
  | 0 => h
  | k + 1 => { h with next := h.next + (k + 1) }
theorem Heap.room_eq (h : Heap) (k : Nat) : h.room k = { h with next := h.next + k } := by cases k <;> rfl
theorem Heap.room_get {h : Heap} {k i : Nat} {x : Option CObj} (g : h.get i = x) : (h.room k).get i = x := by rw [Heap.room_eq]; exact g
theorem Heap.nx_room {h : Heap} {k n : Nat} (e : h.next = n) : (h.room k).next = n + k := by rw [Heap.room_eq, ← e]

theorem drawC {T : Tab} {N n k : Nat} {its : List DIt} {ρ : Env} {ds : DS} {h : Heap} {Q : QT} {hist : Nat → Heap} (hn : its.length = n) (q : NUMN h.next fun base => wD T N base n its 0 hist [] ρ ds (h.room k) (Q .normal)) : CODEN T N (.draw its k) ρ ds h Q := by
  obtain ⟨e, q⟩ := q
  subst e
  refine ⟨WP.draw ?_⟩
  rw [Heap.room_eq] at q
  obtain ⟨m, a', h', hs, ev, hl, hck, _, ρ', ds', rfl, _, hK⟩ := wD_ok (pre := []) (p := 0) rfl (by omega) (fun k hk => absurd hk (Nat.not_lt_zero k)) q
  exact ⟨m, _, h', hs, ev, hck, ρ', ds', rfl, hK⟩
theorem drawC0 {T : Tab} {N n : Nat} {its : List DIt} {ρ : Env} {ds : DS} {h : Heap} {Q : QT} {hist : Nat → Heap} (hn : its.length = n) (q : NUMN h.next fun base => wD T N base n its 0 hist [] ρ ds h (Q .normal)) : CODEN T N (.draw its 0) ρ ds h Q := drawC hn q
end Go.Proofs.YtmppoknfekdbbaaDoor.Cm
