/-
  The clean machine, part R: a region whose order is drawn, made whole.
-/
import Derived.Test.YtmppoknfekdbbaaDoorCmXQ
namespace Go.Proofs.YtmppoknfekdbbaaDoor.Cm
open Go.RowKit

section
variable {P : Program} {glb : Gl} {call : CallFn} {ops : Array Oper} {its : List DIt} {k : Nat} {B : List Nat}
variable {base : Nat} {fr : Nat → Fr} {hp : Nat → Heap}
variable {K : Ctx} {ι₀ ι : Emb} {listed : Array Bool} {A : Act} {w : World} {τ : Nat} {hD : Heap}

theorem Ripe.other {p : Nat} {x : DIt} {o : Oper} (D : DrawOk P glb ops its k B) (r : Ripe ops its listed p x o) {q : Nat} {y : DIt} (hy : its[q]? = some y) (hne : q ≠ p) :
    (listed.setIfInBounds x.ix true).getD y.ix false = listed.getD y.ix false :=
  getD_set_ne false fun hi => hne (D.inj p q x y r.it hy hi).symm

theorem alloc_step {p : Nat} {x : DIt} {o : Oper} {aid : Nat} (D : DrawOk P glb ops its k B) (Rn : Run call its base fr hp) (S : St ops its base fr hp K ι₀ listed A w ι τ hD) (hk : K.glb = glb)
    (hKN : ∀ i, K.N i → i < base) (hKU : ∀ i, K.U i → i < base) (r : Ripe ops its listed p x o) (hq : x.kind = .alloc aid) {N : Act → World → Prop} {Q : Exit → Act → World → Prop}
    (next : ∀ A' w' ι' hD', St ops its base fr hp K ι₀ (listed.setIfInBounds x.ix true) A' w' ι' τ hD' → N A' w') : wpOp P ops Q x.ix N A w := by
  have hax : isAl its p x aid := ⟨r.it, hq⟩
  obtain ⟨hA, haid, hae⟩ := D.alloc p x aid hax
  obtain ⟨o', ho', R, hl⟩ := D.rel p x r.it
  rw [r.op] at ho'; simp at ho'; subst ho'
  obtain ⟨v, obj, hguard, hal, e1, e2⟩ := stepD_alloc hq (Rn p x r.it)
  have hwant : Region.wanted o (yielded ops A.tmps) = true := wanted_sim R (a := (fr p).tmps) (fun t ht => r.slots' Rn D S ht) (by rw [hguard]; rfl)
  simp only [wpOp, r.op, hwant, if_true]
  refine .inl ?_
  obtain ⟨hwr, O, v', hrun, hnew⟩ := R.good.alloc hA _ ι hD w (fr p).tmps A (show (K.wait its base listed).glb = glb from hk) S.inv (fun t ht => r.slots' Rn D S (.inl ht)) (base + aid) v obj hal
  simp only [Oper.wp, hrun, Oper.upon, ← R.dst]
  have hub : Unborn its base listed (base + aid) := ⟨p, x, aid, hax, rfl, r.not⟩
  have hfr : ι (base + aid) = none := (S.inv.nul _ (.inr hub)).2
  have hle := ι.le_put (base + aid) (w.heap.size, 0, 0) hfr
  obtain ⟨hv, hobj⟩ := hnew _ hle (Emb.put_same _ _ _)
  have H' := Inv.born (K := K) (N := (K.wait its base listed).N) (U := (K.wait its base listed).U) S.inv (.inr hub) (.inr hub) obj O hobj
  have hself := r.set_self S
  have hpt : τ ≤ p := by
    rcases Nat.lt_or_ge p τ with hlt | hge
    · exfalso
      rcases S.stage with h0 | ⟨q, hq', y, hy, hye⟩
      · omega
      · have hpq : p < q := by
          rcases Nat.lt_or_ge p q with h | h
          · exact h
          · exfalso
            have hpe : p = q := by omega
            subst hpe
            rw [r.it] at hy; simp at hy; subst hy
            rw [hye] at hq; simp at hq
        have h1 := (S.effs q y hy hye).2 (by omega)
        obtain ⟨oy, hoy, _⟩ := D.rel q y hy
        have := prec_listed D.masks S.closed S.size _ _ (Nat.lt_succ_self _) oy hoy (S.closed _ _ hoy h1) x.ix (hae q y hy hye hpq)
        rw [r.not] at this; simp at this
    · exact hge
  have hdrop : ∀ i, Unborn its base (listed.setIfInBounds x.ix true) i → Unborn its base listed i ∧ i ≠ base + aid := by
    intro i hi
    refine ⟨hi.anti, ?_⟩
    rintro rfl
    obtain ⟨q, y, aid', h1, h2, h3⟩ := hi
    have : aid = aid' := by omega
    subst this
    have := D.aid p q x y aid hax h1
    subst this
    have h5 := h1.1
    rw [r.it] at h5; simp at h5; subst h5
    rw [hself] at h3; simp at h3
  refine next _ _ _ (hD.set (base + aid) obj) ⟨S.le.trans hle, S.tn, S.stage, fun q y hy hye => ?_, r.closed S, by simp [S.size], ?_, fun q y aid' v₁ obj₁ h1 h2 h3 h4 => ?_, fun i hi => ?_, S.next, S.none,
    by rw [put_size]; exact S.len, fun t ht => r.slotsAfter D S Rn e1 hle hv A.defers t ht, fun t ht => r.slotsAfter₀ S hle A.defers t ht, by rw [put_defers']; exact S.defers.mono hle⟩
  · rw [r.other D hy (fun e => by subst e; rw [r.it] at hy; simp at hy; subst hy; rw [hye] at hq; simp at hq)]
    exact S.effs q y hy hye
  · refine Inv.weak H' (fun i hi => ?_) (fun i hi => ?_)
    · rcases hi with hi | hi
      · exact ⟨.inl hi, by have := hKN i hi; omega⟩
      · exact ⟨.inr (hdrop i hi).1, (hdrop i hi).2⟩
    · rcases hi with hi | hi
      · exact ⟨.inl hi, by have := hKU i hi; omega⟩
      · exact ⟨.inr (hdrop i hi).1, (hdrop i hi).2⟩
  · by_cases hqp : q = p
    · subst hqp
      have h5 := h1.1
      rw [r.it] at h5; simp at h5; subst h5
      have h6 := h1.2
      rw [hq] at h6; simp at h6; subst h6
      rw [hal] at h4; simp at h4; obtain ⟨rfl, rfl⟩ := h4
      exact ⟨by rw [Heap.get_set]; simp, hwr⟩
    · rw [r.other D h1.1 hqp] at h3
      have := S.pend q y aid' v₁ obj₁ h1 h2 h3 h4
      refine ⟨?_, this.2⟩
      rw [Heap.get_set_ne _ _ _ _ (fun e => hqp ?_)]
      · exact this.1
      · have : aid' = aid := by omega
        subst this
        exact D.aid q p y x aid' h1 hax
  · have hne : i ≠ base + aid := hi p x aid hax hpt hself
    rw [Heap.get_set_ne _ _ _ _ hne]
    exact S.same i fun q y aid' h1 h2 h3 => hi q y aid' h1 h2 (getD_set_true h3)

theorem eff_step {p : Nat} {x : DIt} {o : Oper} (hc : CallOk P glb call) (D : DrawOk P glb ops its k B) (Rn : Run call its base fr hp) (S : St ops its base fr hp K ι₀ listed A w ι τ hD) (hk : K.glb = glb)
    (r : Ripe ops its listed p x o) (hq : x.kind = .eff) {N : Act → World → Prop} {Q : Exit → Act → World → Prop}
    (next : ∀ A' w' ι' τ' hD', St ops its base fr hp K ι₀ (listed.setIfInBounds x.ix true) A' w' ι' τ' hD' → N A' w') : wpOp P ops Q x.ix N A w := by
  obtain ⟨o', ho', R, hl⟩ := D.rel p x r.it
  rw [r.op] at ho'; simp at ho'; subst ho'
  obtain ⟨v, ds, he, e1⟩ := stepD_eff hq (Rn p x r.it)
  have hpl := itLt r.it
  have hpt : τ ≤ p := by
    rcases Nat.lt_or_ge p τ with hlt | hge
    · have := (S.effs p x r.it hq).2 hlt
      rw [r.not] at this; simp at this
    · exact hge
  have hcalm : ∀ q, τ ≤ q → q < p → ¬ isEff its q := by
    rintro q h1 h2 ⟨y, hy, hye⟩
    have := (S.effs q y hy hye).1 (r.prec D S (D.eff q p y x hy r.it hye hq h2))
    omega
  obtain ⟨c1, c2, c3⟩ := Rn.calm (τ := τ) (p - τ) p (by omega) (by omega) hcalm
  have hmade : ∀ (q : Nat) (y : DIt) (aid : Nat), isAl its q y aid → q < p → listed.getD y.ix false = true := fun q y aid ha hlt =>
    r.prec D S ((D.alloc q y aid ha).2.2 p x r.it hq hlt)
  have hS : ∀ i, Early its base (p + 1) listed i → ∃ o, hD.get i = some o ∧ o.wr = true := fun i h => S.early Rn (by omega) h
  have H' : Inv ((K.wait its base listed).hide ι (Early its base (p + 1) listed) w) ι (hp p) w := by
    refine S.inv.hide hS (fun i => ?_) (fun i hi => ?_) (c1.trans S.next.symm)
    · rintro ⟨q, y, aid, h1, h2, h3, rfl⟩
      rw [c3 (base + aid) (fun r' y' aid' h4 h5 h6 e => ?_)]
      · exact S.none q y aid h1 (by omega)
      · have : aid = aid' := by omega
        subst this
        have := D.aid q r' y y' aid h1 h6
        omega
    · classical
      by_cases hin : ∃ (q : Nat) (y : DIt) (aid : Nat), isAl its q y aid ∧ τ ≤ q ∧ q < p ∧ i = base + aid
      · obtain ⟨q, y, aid, h1, h2, h3, rfl⟩ := hin
        obtain ⟨v₁, obj, _, ha, _⟩ := stepD_alloc h1.2 (Rn q y h1.1)
        rw [Rn.calm_in D.aid (by omega) hcalm h2 h3 h1 ha, (S.pend q y aid v₁ obj h1 h2 (hmade q y aid h1 h3) ha).1]
      · rw [c3 i (fun r' y' aid' h4 h5 h6 e => hin ⟨r', y', aid', h6, h4, h5, e⟩)]
        refine (S.same i fun q y aid h1 h2 h3 e => ?_).symm
        by_cases hlt : q < p
        · exact hin ⟨q, y, aid, h1, h2, hlt, e⟩
        · refine hi ⟨q, y, aid, h1, ?_, h3, e⟩
          rcases Nat.lt_or_ge p q with h | h
          · exact h
          · exfalso
            have : q = p := by omega
            subst this
            have h5 := h1.1
            rw [r.it] at h5; simp at h5; subst h5
            have h6 := h1.2
            rw [hq] at h6; simp at h6
  refine oper_sim₁ hc R he (show ((K.wait its base listed).hide ι (Early its base (p + 1) listed) w).glb = glb from hk) H' (fun t ht => r.slots' Rn D S ht) (fun ι' v' ds' w' hle H₁ hv hds => ?_) r.op
  obtain ⟨h', hh1, hh2, hh3⟩ := exists_overlay hD (hp (p + 1)) (base + k) (Early its base (p + 1) listed) (by
    rintro i ⟨q, y, aid, h1, _, _, rfl⟩
    have := (D.alloc q y aid h1).2.1
    omega)
  have H₂ := S.inv.unhide hle H₁ hh1 hh2 hh3
  have hother : ∀ (q : Nat) (y : DIt) (aid : Nat), isAl its q y aid → (listed.setIfInBounds x.ix true).getD y.ix false = listed.getD y.ix false := fun q y aid h => by
    refine r.other D h.1 fun e => ?_
    subst e
    have h5 := h.1
    rw [r.it] at h5; simp at h5; subst h5
    have h6 := h.2
    rw [hq] at h6; simp at h6
  refine next _ _ ι' (p + 1) h' ⟨S.le.trans hle, by omega, .inr ⟨p, rfl, x, r.it, hq⟩, fun q y hy hye => ?_, r.closed S, by simp [S.size], ?_, fun q y aid v₁ obj₁ h1 h2 h3 h4 => ?_, fun i hi => ?_, hh3, fun q y aid h1 h2 => ?_,
    by rw [put_size]; exact S.len, fun t ht => r.slotsAfter D S Rn e1 hle hv _ t ht, fun t ht => r.slotsAfter₀ S hle _ t ht, ?_⟩
  · by_cases hqp : q = p
    · subst hqp
      rw [r.it] at hy; simp at hy; subst hy
      exact ⟨fun _ => by omega, fun _ => r.set_self S⟩
    · rw [r.other D hy hqp, S.effs q y hy hye]
      refine ⟨fun h => by omega, fun h => ?_⟩
      rcases Nat.lt_or_ge q τ with h1 | h1
      · exact h1
      · exact absurd ⟨y, hy, hye⟩ (hcalm q h1 (by omega))
  · exact Inv.weak H₂ (fun i hi => hi.imp id Unborn.anti) (fun i hi => hi.imp id Unborn.anti)
  · rw [hother q y aid h1] at h3
    have := S.pend q y aid v₁ obj₁ h1 (by omega) h3 h4
    exact ⟨by rw [hh1 _ ⟨q, y, aid, h1, h2, h3, rfl⟩]; exact this.1, this.2⟩
  · exact hh2 i fun ⟨q, y, aid, h1, h2, h3, e⟩ => hi q y aid h1 h2 (by rw [hother q y aid h1]; exact h3) e
  · refine (H₁.nev (base + aid) ?_).2
    cases hq' : listed.getD y.ix false with
    | true => exact .inr ⟨q, y, aid, h1, h2, hq', rfl⟩
    | false => exact .inl (.inr ⟨q, y, aid, h1, rfl, hq'⟩)
  · rw [e1, Fr.done_defers, put_defers', c2]
    exact hds.append (S.defers.mono hle)

theorem St.finish (D : DrawOk P glb ops its k B) (Rn : Run call its base fr hp) (S : St ops its base fr hp K ι₀ listed A w ι τ hD) (hall : ∀ i, i < ops.size → listed.getD i false = true) :
    Post K ι₀ .normal (fr its.length) (hp its.length) .normal A w := by
  have hdone : ∀ (q : Nat) (y : DIt), its[q]? = some y → listed.getD y.ix false = true := fun q y hy => by
    obtain ⟨o, ho, _⟩ := D.rel q y hy
    exact hall _ (Array.getElem?_eq_some_iff.1 ho).1
  have hcalm : ∀ q, τ ≤ q → q < its.length → ¬ isEff its q := by
    rintro q h1 h2 ⟨y, hy, hye⟩
    have := (S.effs q y hy hye).1 (hdone q y hy)
    omega
  obtain ⟨c1, c2, c3⟩ := Rn.calm (τ := τ) (its.length - τ) its.length (by have := S.tn; omega) (Nat.le_refl _) hcalm
  refine ⟨trivial, ι, S.le, ?_, ?_, ?_⟩
  · have H' : Inv K ι hD w := Inv.weak (K := K) (N' := K.N) (U' := K.U) S.inv (fun i hi => .inl hi) (fun i hi => .inl hi)
    refine H'.ext (fun i => ?_) (c1.trans S.next.symm)
    classical
    by_cases hin : ∃ (q : Nat) (y : DIt) (aid : Nat), isAl its q y aid ∧ τ ≤ q ∧ i = base + aid
    · obtain ⟨q, y, aid, h1, h2, rfl⟩ := hin
      obtain ⟨v₁, obj, _, ha, _⟩ := stepD_alloc h1.2 (Rn q y h1.1)
      rw [Rn.calm_in D.aid (Nat.le_refl _) hcalm h2 (itLt h1.1) h1 ha, (S.pend q y aid v₁ obj h1 h2 (hdone q y h1.1) ha).1]
    · rw [c3 i (fun r' y' aid' h4 h5 h6 e => hin ⟨r', y', aid', h6, h4, e⟩), S.same i fun q y aid h1 h2 h3 e => hin ⟨q, y, aid, h1, h2, e⟩]
  · have hlen := Rn.len its.length (Nat.le_refl _)
    refine VRs.of_get (by rw [hlen, Array.length_toList, S.len]) fun j v v' hv hv' => ?_
    have := S.slots j fun q y hy _ => hdone q y hy
    unfold TmpR at this
    simp only [Array.getElem?_toList] at hv'
    rw [List.getD_eq_getElem?_getD, hv, Array.getD_eq_getD_getElem?, hv'] at this
    exact this
  · rw [c2]; exact S.defers

theorem any_sim (hc : CallOk P glb call) (D : DrawOk P glb ops its k B) (Rn : Run call its base fr hp) (hk : K.glb = glb) (hKN : ∀ i, K.N i → i < base) (hKU : ∀ i, K.U i → i < base)
    {hs : List (Fr × Heap)} (hhs : ∀ p, p ≤ its.length → hs[p]? = some (fr p, hp p)) (hch : checkD (fr its.length).tmps hs its hs = true) :
    ∀ (fuel : Nat) (listed : Array Bool) (A : Act) (w : World) (ι : Emb) (τ : Nat) (hD : Heap), St ops its base fr hp K ι₀ listed A w ι τ hD → left listed ops.size ≤ fuel →
      wpAny P .any ops (Post K ι₀ .normal (fr its.length) (hp its.length)) fuel listed A w
  | 0, listed, A, w, ι, τ, hD, S, hf => by
    have hall : ∀ i, i < ops.size → listed.getD i false = true := left_zero (by omega)
    refine ⟨?_, S.finish D Rn hall⟩
    cases hr : Region.ready .any ops listed with
    | nil => rfl
    | cons j js =>
      obtain ⟨h0, o, ho, _⟩ := ready_edges (j := j) (by rw [hr]; simp)
      have hlt := (Array.getElem?_eq_some_iff.1 ho).1
      have := hall j hlt
      have hl : j < listed.size := by rw [S.size]; exact hlt
      simp [hl] at this h0
      rw [this] at h0; simp at h0
  | fuel + 1, listed, A, w, ι, τ, hD, S, hf => by
    refine ⟨fun hr => S.finish D Rn fun i hi => ready_nil D.masks S.size hr (i + 1) i (by omega) hi, fun i hi => ?_⟩
    obtain ⟨h0, o, ho, hed⟩ := ready_edges hi
    have hlt := (Array.getElem?_eq_some_iff.1 ho).1
    have hl : i < listed.size := by rw [S.size]; exact hlt
    have h0' : listed.getD i false = false := by simp [hl] at h0 ⊢; exact h0
    obtain ⟨p, x, hx, rfl⟩ := D.sur i hlt
    have r : Ripe ops its listed p x o := ⟨hx, ho, h0', hed⟩
    have hleft := (left_set hl h0' ops.size).1 hlt
    cases hq : x.kind with
    | quiet ks =>
      exact quiet_step D Rn S hk r hq hhs (fun k' hk' => checkD_spec hch p x ks _ hx (hhs p (Nat.le_of_lt (itLt hx))) hq k' hk') fun A' S' => any_sim hc D Rn hk hKN hKU hhs hch fuel _ A' w ι τ hD S' (by omega)
    | alloc aid =>
      exact alloc_step D Rn S hk hKN hKU r hq fun A' w' ι' hD' S' => any_sim hc D Rn hk hKN hKU hhs hch fuel _ A' w' ι' τ hD' S' (by omega)
    | eff =>
      exact eff_step hc D Rn S hk r hq fun A' w' ι' τ' hD' S' => any_sim hc D Rn hk hKN hKU hhs hch fuel _ A' w' ι' τ' hD' S' (by omega)
end

/-- A region whose order is drawn. -/
theorem Sim.draw {P : Program} {glb : Gl} (hm : P.follows .mixedOrders = true) {id : Nat} {ops : Array Oper} {its : List DIt} {k : Nat} {B : List Nat} (D : DrawOk P glb ops its k B) : Sim P glb (.region id ops true) (.draw its k) := by
  intro call hc n a h x a' h' e K ι A w hk H F
  cases n with
  | zero => simp [evCode] at e
  | succ n =>
    simp only [evCode] at e
    split at e
    · next a₁ h₁ hs he =>
      split at e
      · next hch =>
        simp only [Option.some.injEq, Prod.mk.injEq] at e; obtain ⟨rfl, rfl, rfl⟩ := e
        obtain ⟨fr, hp, f0, g0, f1, g1, hhs, _, Rn⟩ := evD_trace its _ _ _ _ _ he
        subst f1; subst g1
        refine wp_region_any hm (any_sim (base := h.next) hc D Rn hk (fun i hi => (H.nev i hi).1) (fun i hi => (H.nul i hi).1) hhs hch ops.size _ A _ ι 0 { h with next := h.next + k } ?_ ?_)
        · have hun : ∀ i, Unborn its h.next (Array.replicate ops.size false) i → h.next ≤ i ∧ i < h.next + k := by
            rintro i ⟨q, y, aid, h1, rfl, _⟩
            have := (D.alloc q y aid h1).2.1
            omega
          have hno : ∀ i, (Array.replicate ops.size false).getD i false = false := fun i => by simp [Array.getElem?_replicate]; split <;> rfl
          refine ⟨Emb.le.refl _, Nat.zero_le _, .inl rfl, fun q y _ _ => ?_, fun j o _ hl => ?_, by simp, ?_, fun q y aid v obj _ _ hl => ?_, fun i _ => by rw [g0], by rw [g0], fun q y aid h1 _ => ?_, ?_, fun t ht => ?_, fun t _ => by rw [f0]; exact F.tmps.tmp t, ?_⟩
          · rw [hno]; simp
          · rw [hno] at hl; simp at hl
          · exact Inv.weak (K := K) ((H.bump k).drawn _) (fun i hi => hi.imp (fun z => z) (hun i)) (fun i hi => hi.imp (fun z => z) (hun i))
          · rw [hno] at hl; simp at hl
          · rw [g0]
            exact (H.fresh (h.next + aid) (by omega)).2
          · rw [f0]; have := F.tmps.length; simpa using this.symm
          · have hl := Run.late Rn (t := t) its.length 0 rfl (Nat.zero_le _) (fun q y hy hd => by have := ht q y hy hd; rw [hno] at this; simp at this)
            unfold TmpR
            rw [← hl, f0]
            exact F.tmps.tmp t
          · rw [f0]; exact F.defers
        · rw [left_rep _ _ (Nat.le_refl _)]; exact Nat.le_refl _
      · simp at e
    · simp at e
end Go.Proofs.YtmppoknfekdbbaaDoor.Cm
