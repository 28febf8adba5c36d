/-
  The clean machine, part I: maps.
-/
import Derived.Test.YtmppoknfekdbbaaDoorCmXH
import Derived.WideKeyRuns
namespace Go.Proofs.YtmppoknfekdbbaaDoor.Cm
open Go.RowKit

section
variable {P : Program} {K : Ctx} {ι : Emb} {h : Heap} {w : World} {a : List CVal} {A : Act}

theorem run_checkKey_plain' {k : PK} {d : TypeDesc} {t : TypeId} (ht : P.underlying t = some d) (hf : k.fits d = true) (em : Bool) (n : Nat) (v : Value) : (Instr.checkKey em (n + 1) t v).run P w = .ok () w := by
  unfold Instr.checkKey
  simp only [Sem.run_bind, run_underlying ht, Result.andThen]
  cases k <;> cases d <;> simp [PK.fits] at hf <;> cases v <;> simp

theorem run_checkKey_flat {t : TypeId} {ks : List PK} (hf : flatT P t ks = true) {as : List CVal} {as' : Array Value} (ha : VRs ι as as'.toList) (hl : as.length = ks.length) (em : Bool) (n : Nat) : (Instr.checkKey em (n + 2) t (.agg as')).run P w = .ok () w := by
  unfold flatT at hf
  split at hf
  · next fs hfs =>
    simp only [Bool.and_eq_true, Bool.not_eq_true'] at hf
    have key : ∀ (fl : List Field) (kl : List PK) (j : Nat), flatFs P j fl kl = true → j + kl.length = ks.length → ∀ f : Field → PUnit → Sem (ForInStep PUnit),
        (∀ x u, f x u = (if x.name ≠ "_" then do let p ← part x.type as' x.offset; Instr.checkKey em (n + 1) x.type p; pure (ForInStep.yield PUnit.unit) else pure (ForInStep.yield PUnit.unit))) →
        (forIn fl PUnit.unit f).run P w = .ok PUnit.unit w := by
      intro fl
      induction fl with
      | nil => intro kl j _ _ f _; simp
      | cons x fl ih =>
        intro kl j hkl hj f hfx
        cases kl with
        | nil => simp [flatFs] at hkl
        | cons k kl =>
          simp only [flatFs, Bool.and_eq_true, beq_iff_eq, bne_iff_ne, ne_eq] at hkl
          obtain ⟨⟨⟨h1, h2⟩, h3⟩, h4⟩ := hkl
          split at h3
          · next d hd =>
            simp at hj
            have hlt : j < as.length := by omega
            obtain ⟨v', hv1, hv2⟩ := ha.get j as[j] (by simp [hlt])
            have hv3 : as'[j]? = some v' := by simpa using hv1
            have hag := plain_agg (P := P) (w := w) hd h3
            have hck := run_checkKey_plain' (P := P) (w := w) hd h3 em n v'
            simp only [List.forIn_cons, hfx, ne_eq, h2, not_false_eq_true, if_true, Sem.run_bind, part, hag, Result.andThen, Bool.false_eq_true, if_false, h1, hv3, Sem.run_pure, hck]
            exact ih kl (j + 1) h4 (by omega) f hfx
          · simp at h3
    unfold Instr.checkKey
    simp only [Sem.run_bind, run_underlying hfs, Result.andThen]
    rw [← Array.forIn_toList]
    have := key fs.toList ks 0 hf.1 (by simp) _ (fun x u => rfl)
    first | exact this | (rw [this]; rfl) | simp [this]
  · simp at hf

theorem run_checkKey_kt {t : TypeId} {kt : KT} (hf : kt.fits P t = true) {v : CVal} {v' : Value} (hv : VR ι v v') (hk : keyok kt v = true) (em : Bool) (n : Nat) : (Instr.checkKey em (n + 2) t v').run P w = .ok () w := by
  cases kt with
  | one k =>
    simp only [KT.fits] at hf
    split at hf
    · next d hd => exact run_checkKey_plain' hd hf em (n + 1) v'
    · simp at hf
  | flat ks =>
    cases hv <;> simp [keyok] at hk
    next as as' ha => exact run_checkKey_flat hf ha hk.1 em n

theorem peq_eq {k : PK} {a b : CVal} (e : peq k a b = some true) : a = b := by
  cases k <;> cases a <;> cases b <;> simp [peq] at e <;> simp [e]

theorem peqs_eq : ∀ {ks : List PK} {as bs : List CVal}, peqs ks as bs = some true → as = bs
  | [], [], [], _ => rfl
  | k :: ks, a :: as, b :: bs, e => by
    simp only [peqs] at e
    cases hp : peq k a b with
    | none => rw [hp] at e; simp at e
    | some c =>
      rw [hp] at e
      cases c with
      | false => simp at e
      | true => simp at e; rw [peq_eq hp, peqs_eq e]
  | [], _ :: _, _, e => by simp [peqs] at e
  | [], [], _ :: _, e => by simp [peqs] at e
  | _ :: _, [], _, e => by simp [peqs] at e
  | _ :: _, _ :: _, [], e => by simp [peqs] at e

theorem keyeq_eq {kt : KT} {a b : CVal} (e : keyeq kt a b = some true) : a = b := by
  cases kt with
  | one k => exact peq_eq (by simpa [keyeq] using e)
  | flat ks => cases a <;> cases b <;> simp [keyeq] at e; rw [peqs_eq e]

def FR (ι : Emb) : Option (Nat × CVal) → Option (Nat × Value) → Prop
  | none, none => True
  | some (j, v), some (j', v') => j = j' ∧ VR ι v v'
  | _, _ => False

theorem EsR.cons_inv {e : CVal × CVal} {es : List (CVal × CVal)} {E : List MapEntry} (R : EsR ι (e :: es) E) : ∃ x xs, E = x :: xs ∧ VR ι e.1 x.key ∧ VR ι e.2 x.val ∧ EsR ι es xs := by
  obtain ⟨h1, h2⟩ := R
  cases E with
  | nil => simp at h1; cases h1
  | cons x xs =>
    simp only [List.map_cons] at h1 h2
    cases h1 with
    | cons _ _ _ _ a1 a2 => cases h2 with
      | cons _ _ _ _ b1 b2 => exact ⟨x, xs, rfl, a1, b1, a2, b2⟩

theorem EsR.nil_inv {E : List MapEntry} (R : EsR ι [] E) : E = [] := by
  have := R.1.length
  cases E with
  | nil => rfl
  | cons _ _ => simp at this

theorem run_findAsking {t : TypeId} {kt : KT} (hf : kt.fits P t = true) {k : CVal} {k' : Value} (hk : VR ι k k') : ∀ (es : List (CVal × CVal)) (E : List MapEntry) (i : Nat), EsR ι es E → ∀ res, findK kt k es i = some res → ∃ res', (Instr.findAsking t k' E i).run P w = .ok res' w ∧ FR ι res res'
  | [], E, i, R, res, e => by
    simp [findK] at e; subst e
    rw [R.nil_inv]
    exact ⟨none, by simp [Instr.findAsking], trivial⟩
  | e0 :: es, E, i, R, res, e => by
    obtain ⟨x, xs, rfl, h1, h2, h3⟩ := R.cons_inv
    simp only [findK] at e
    cases hq : keyeq kt k e0.1 with
    | none => rw [hq] at e; simp at e
    | some c =>
      rw [hq] at e
      have hr : (Op.equal t k' x.key).run P w = .ok c w := run_keyeq hf hk h1 hq 9998
      cases c with
      | true =>
        simp at e; subst e
        exact ⟨some (i, x.val), by simp [Instr.findAsking, hr], rfl, h2⟩
      | false =>
        simp at e
        obtain ⟨res', h4, h5⟩ := run_findAsking hf hk es xs (i + 1) h3 res e
        exact ⟨res', by simp [Instr.findAsking, hr, h4], h5⟩

theorem findNow_one {k : PK} {d : TypeDesc} (hf : k.fits d = true) {v : CVal} {v' : Value} (hv : VR ι v v') : ∀ (es : List (CVal × CVal)) (E : List MapEntry) (i : Nat), EsR ι es E → ∀ res, findK (.one k) v es i = some res → ∃ res', Instr.findNow d v' E i = some res' ∧ FR ι res res'
  | [], E, i, R, res, e => by
    simp [findK] at e; subst e
    rw [R.nil_inv]
    exact ⟨none, rfl, trivial⟩
  | e0 :: es, E, i, R, res, e => by
    obtain ⟨x, xs, rfl, h1, h2, h3⟩ := R.cons_inv
    simp only [findK, keyeq] at e
    cases hq : peq k v e0.1 with
    | none => rw [hq] at e; simp at e
    | some c =>
      rw [hq] at e
      have hr : Instr.sameNow d v' x.key = some c := by
        generalize e0.1 = u at h1 hq
        generalize x.key = u' at h1
        cases k <;> cases d <;> simp [PK.fits] at hf <;> cases hv <;> cases h1 <;> simp [peq] at hq
        · subst hq; rfl
        · obtain ⟨rfl, rfl⟩ := hq; simp [Instr.sameNow]
        · next s1 s2 =>
          subst hq
          obtain ⟨⟨x1⟩⟩ := s1
          obtain ⟨⟨x2⟩⟩ := s2
          show some ((⟨x1⟩ : Array UInt8) == ⟨x2⟩) = _
          simp
      cases c with
      | true =>
        simp at e; subst e
        exact ⟨some (i, x.val), by simp [Instr.findNow, hr], rfl, h2⟩
      | false =>
        simp at e
        obtain ⟨res', h4, h5⟩ := findNow_one hf hv es xs (i + 1) h3 res e
        exact ⟨res', by simp [Instr.findNow, hr, h4], h5⟩

theorem run_findKey' {t : TypeId} {kt : KT} (hf : kt.fits P t = true) {k : CVal} {k' : Value} (hk : VR ι k k') {es : List (CVal × CVal)} {E : List MapEntry} (R : EsR ι es E) {res : Option (Nat × CVal)} (e : findK kt k es 0 = some res) :
    ∃ res', (Instr.findKey t k' E).run P w = .ok res' w ∧ FR ι res res' := by
  cases kt with
  | one p =>
    simp only [KT.fits] at hf
    split at hf
    · next d hd =>
      obtain ⟨res', h1, h2⟩ := findNow_one hf hk es E 0 R res e
      exact ⟨res', by simp [Instr.findKey, run_underlying hd, h1], h2⟩
    · simp at hf
  | flat ks =>
    obtain ⟨res', h1, h2⟩ := run_findAsking (P := P) (w := w) hf hk es E 0 R res e
    refine ⟨res', ?_, h2⟩
    rw [run_findKey_eq w ?_ k' E]
    · exact h1
    · simp only [KT.fits, flatT] at hf
      split at hf
      · next fs hfs => simp [hfs]
      · simp at hf

/-- A map as an operand. -/
theorem Inv.mapAt (H : Inv K ι h w) {v : CVal} {v' : Value} (hv : VR ι v v') {es : List (CVal × CVal)} (hes : mapC h v = some es) :
    (v' = .map none ∧ es = []) ∨ ∃ b E c, v' = .map (some b) ∧ w.heap[b]? = some (.map E c) ∧ EsR ι es E.toList := by
  cases hv <;> simp [mapC] at hes
  · exact .inl ⟨rfl, hes⟩
  · next i b β ex hi =>
    split at hes
    · next es' wr hget =>
      simp at hes; subst hes
      obtain ⟨b1, e1, E, c, h1, h2, h3, h4⟩ := H.obj i _ hget
      rw [hi] at h1; simp at h1; obtain ⟨rfl, rfl, rfl⟩ := h1
      exact .inr ⟨b, E, c, rfl, h2, h3⟩
    · simp at hes

theorem sim_lookup (H : Inv K ι h w) {t kt el : TypeId} {kc : KT} (ht : P.underlying t = some (.map kt el)) (hf : kc.fits P kt = true) {zv : Value} (hz : (zeroValue el).run P w = .ok zv w) {zero : CVal} (Rz : VR ι zero zv) {ok : Bool} {M Y : Operand} {m k : CX} (hm : VR ι (m.ev a) (A.eval M)) (hk : VR ι (k.ev a) (A.eval Y))
    {o : Oper} (ho : o.op = .lookup t M Y ok) {r : CRes} {h' : Heap} (e : cop (.lookup kc zero ok m k) a h = some (r, h')) : OutQ P ι h r h' (execOp A.eval o) w := by
  simp only [cop] at e
  split at e
  · simp at e
  · next hok =>
    have hok : keyok kc (k.ev a) = true := by simpa using hok
    split at e
    · simp at e
    · next es hes =>
      have hE : ∃ E : Array MapEntry, EsR ι es E.toList ∧ ∀ res', (Instr.findKey kt (A.eval Y) E.toList).run P w = .ok res' w → (execOp A.eval o).run P w = (match res' with | some (_, v) => .ok (.value (if ok then .tuple #[v, .bool true] else v)) w | none => .ok (.value (if ok then .tuple #[zv, .bool false] else zv)) w) := by
        have hck := fun em => run_checkKey_kt (P := P) (w := w) hf hk hok em 9998
        rcases H.mapAt hm hes with ⟨h1, h2⟩ | ⟨b, E, c, h1, h2, h3⟩
        · subst h2
          refine ⟨#[], ⟨.nil, .nil⟩, fun res' hr => ?_⟩
          cases res' with
          | none => simp [execOp, ho, h1, Instr.lookup, run_underlying ht, hck, hr, hz, Result.andThen] <;> (split <;> rfl)
          | some q => simp [execOp, ho, h1, Instr.lookup, run_underlying ht, hck, hr, Result.andThen] <;> (split <;> rfl)
        · refine ⟨E, h3, fun res' hr => ?_⟩
          cases res' with
          | none => simp [execOp, ho, h1, Instr.lookup, run_underlying ht, hck, hr, hz, Result.andThen, getObj, Sem.run, h2] <;> (split <;> rfl)
          | some q => simp [execOp, ho, h1, Instr.lookup, run_underlying ht, hck, hr, Result.andThen, getObj, Sem.run, h2] <;> (split <;> rfl)
      obtain ⟨E, hER, hrun⟩ := hE
      split at e
      · next j v hfk =>
        simp at e; obtain ⟨rfl, rfl⟩ := e
        obtain ⟨res', h1, h2⟩ := run_findKey' (P := P) (w := w) hf hk hER hfk
        cases res' with
        | none => exact h2.elim
        | some q =>
          obtain ⟨j', v'⟩ := q
          obtain ⟨_, h2⟩ := h2
          refine out_val H (v' := if ok then .tuple #[v', .bool true] else v') (hrun _ h1) ?_
          cases ok
          · exact h2
          · exact .tuple _ _ (.cons _ _ _ _ h2 (.cons _ _ _ _ (.bool _) .nil))
      · next hfk =>
        simp at e; obtain ⟨rfl, rfl⟩ := e
        obtain ⟨res', h1, h2⟩ := run_findKey' (P := P) (w := w) hf hk hER hfk
        cases res' with
        | some q => exact h2.elim
        | none =>
          refine out_val H (v' := if ok then .tuple #[zv, .bool false] else zv) (hrun _ h1) ?_
          cases ok
          · exact Rz
          · exact .tuple _ _ (.cons _ _ _ _ Rz (.cons _ _ _ _ (.bool _) .nil))
      · simp at e

theorem run_keyStays {k : CVal} {o' n' : Value} (ho : VR ι k o') (hn : VR ι k n') : ∃ key' d, (Instr.keyThatStays o' n').run P w = .ok key' { w with drawn := d } ∧ VR ι k key' := by
  unfold Instr.keyThatStays
  split
  · exact ⟨n', w.drawn, rfl, hn⟩
  · refine ⟨if ((Question.extern "map.whichKeyStays" 2).cut (w.tape w.drawn (.extern "map.whichKeyStays" 2))) = 0 then n' else o', w.drawn + 1, ?_, by split <;> assumption⟩
    simp [choose, Sem.run, Question.forced, Result.andThen]

theorem VRs.eraseIdx {vs : List CVal} {vs' : List Value} : VRs ι vs vs' → ∀ j, VRs ι (vs.eraseIdx j) (vs'.eraseIdx j)
  | .nil, _ => .nil
  | .cons _ _ _ _ _ k, 0 => k
  | .cons _ _ _ _ h k, j + 1 => .cons _ _ _ _ h (k.eraseIdx j)

theorem eraseIdx_map' {α β : Type} (f : α → β) : ∀ (l : List α) (j : Nat), (l.map f).eraseIdx j = (l.eraseIdx j).map f
  | [], _ => rfl
  | _ :: _, 0 => rfl
  | x :: l, j + 1 => by simp [eraseIdx_map' f l j]

theorem EsR.set {es : List (CVal × CVal)} {E : Array MapEntry} (R : EsR ι es E.toList) (j : Nat) {k v : CVal} {k' v' : Value} (hk : VR ι k k') (hv : VR ι v v') : EsR ι (es.set j (k, v)) (E.modify j fun e => { e with key := k', val := v' }).toList := by
  have h1 : ((E.modify j fun e => { e with key := k', val := v' }).toList).map (·.key) = (E.toList.map (·.key)).set j k' := by
    apply List.ext_getElem?
    intro i
    simp [List.getElem?_set]
    by_cases hij : j = i
    · subst hij
      cases hE : E[j]? with
      | none => simp [Array.getElem?_eq_none_iff.1 hE]
      | some x => simp [(Array.getElem?_eq_some_iff.1 hE).1]
    · simp [hij]
  have h2 : ((E.modify j fun e => { e with key := k', val := v' }).toList).map (·.val) = (E.toList.map (·.val)).set j v' := by
    apply List.ext_getElem?
    intro i
    simp [List.getElem?_set]
    by_cases hij : j = i
    · subst hij
      cases hE : E[j]? with
      | none => simp [Array.getElem?_eq_none_iff.1 hE]
      | some x => simp [(Array.getElem?_eq_some_iff.1 hE).1]
    · simp [hij]
  refine ⟨?_, ?_⟩
  · rw [h1, List.map_set]; exact R.1.set hk j
  · rw [h2, List.map_set]; exact R.2.set hv j

theorem findK_at {kt : KT} {k : CVal} : ∀ {es : List (CVal × CVal)} {i j : Nat} {v : CVal}, findK kt k es i = some (some (j, v)) → ∃ n, j = i + n ∧ es[n]? = some (k, v)
  | [], i, j, v, e => by simp [findK] at e
  | x :: es, i, j, v, e => by
    simp only [findK] at e
    cases hq : keyeq kt k x.1 with
    | none => rw [hq] at e; simp at e
    | some c =>
      rw [hq] at e
      cases c with
      | true =>
        simp at e; obtain ⟨rfl, rfl⟩ := e
        exact ⟨0, rfl, by simp [keyeq_eq hq]⟩
      | false =>
        simp at e
        obtain ⟨n, h1, h2⟩ := findK_at e
        exact ⟨n + 1, by omega, by simpa using h2⟩

/-- A map's entries are turned. -/
theorem Inv.turnMap (H : Inv K ι h w) {i : Nat} {es es' : List (CVal × CVal)} (hget : h.get i = some (.map es true)) {b β ex : Nat} (hi : ι i = some (b, β, ex)) {E' : Array MapEntry} {c' : Nat} (R : EsR ι es' E'.toList) (d : Nat) :
    Inv K ι (h.set i (.map es' true)) { w with heap := w.heap.setIfInBounds b (.map E' c'), drawn := d } := by
  obtain ⟨b1, e1, E, c, h1, h2, h3, h4⟩ := H.obj i _ hget
  rw [hi] at h1; simp at h1; obtain ⟨rfl, rfl, rfl⟩ := h1
  have hlt := (Array.getElem?_eq_some_iff.1 h2).1
  refine H.turn (o' := .map es' true) hget rfl hi _ rfl rfl rfl (by simp) (fun k hk => by simp [Array.getElem?_setIfInBounds_ne (Ne.symm hk)]) ?_
  exact ⟨b, ex, E', c', hi, by simp [hlt], R, fun hw => h4 hw⟩

theorem sim_mapUpdate (H : Inv K ι h w) {t kt el : TypeId} {kc : KT} (ht : P.underlying t = some (.map kt el)) (hf : kc.fits P kt = true) {M Y V : Operand} {m k v : CX} (hm : VR ι (m.ev a) (A.eval M)) (hk : VR ι (k.ev a) (A.eval Y)) (hv : VR ι (v.ev a) (A.eval V))
    {o : Oper} (ho : o.op = .mapUpdate t M Y V ∨ o.op = .insert t M Y V) {r : CRes} {h' : Heap} (e : cop (.mapUpdate kc m k v) a h = some (r, h')) : Out P K ι r h' (execOp A.eval o) w := by
  simp only [cop] at e
  split at e
  · simp at e
  · next hok =>
    have hok : keyok kc (k.ev a) = true := by simpa using hok
    have hck := run_checkKey_kt (P := P) (w := w) hf hk hok false 9998
    have hex : (execOp A.eval o).run P w = ((Instr.mapUpdate t (A.eval M) (A.eval Y) (A.eval V)).run P w).andThen fun _ w => .ok .skip w := by
      rcases ho with ho | ho <;> simp only [execOp, ho, Sem.run_bind, Sem.run_pure]
    generalize m.ev a = u at hm e
    generalize hM : A.eval M = M' at hm hex
    cases hm <;> simp at e
    next i b β ex hi =>
    split at e
    · next es hget =>
      obtain ⟨b1, e1, E, c, h1, h2, h3, h4⟩ := H.obj i _ hget
      rw [hi] at h1; simp at h1; obtain ⟨rfl, rfl, rfl⟩ := h1
      split at e
      · next j v0 hfk =>
        simp at e; obtain ⟨rfl, rfl⟩ := e
        obtain ⟨res', g1, g2⟩ := run_findKey' (P := P) (w := w) hf hk h3 hfk
        cases res' with
        | none => exact g2.elim
        | some q =>
          obtain ⟨j', v'⟩ := q
          obtain ⟨hjj, g2⟩ := g2
          subst hjj
          obtain ⟨n, hn1, hn2⟩ := findK_at hfk
          obtain rfl : j = n := by omega
          obtain ⟨ko, hko1, hko2⟩ := h3.1.get j (k.ev a) (by simp [hn2])
          obtain ⟨x, hx1, hx2⟩ : ∃ x, E[j]? = some x ∧ x.key = ko := by
            simp at hko1; exact hko1
          obtain ⟨key', d, hs1, hs2⟩ := run_keyStays (P := P) (w := w) (o' := x.key) (n' := A.eval Y) (hx2 ▸ hko2) hk
          refine ⟨ι, { w with heap := w.heap.setIfInBounds b (.map (E.modify j fun e => { e with key := key', val := A.eval V }) c), drawn := d }, .skip, Emb.le.refl _, ?_, H.turnMap hget hi (h3.set j hs2 hv) d, .tuple _ _ .nil⟩
          rw [hex]
          have hx3 : ((E[j]?.map (·.key)).getD (A.eval Y)) = x.key := by simp [hx1]
          simp only [Instr.mapUpdate, Sem.run_bind, run_underlying ht, Result.andThen, getObj, Sem.run, h2, hck, g1, hx3, hs1, setObj]
      · next hfk =>
        simp at e; obtain ⟨rfl, rfl⟩ := e
        obtain ⟨res', g1, g2⟩ := run_findKey' (P := P) (w := w) hf hk h3 hfk
        cases res' with
        | some q => exact g2.elim
        | none =>
          refine ⟨ι, { w with heap := w.heap.setIfInBounds b (.map (E.push { key := A.eval Y, val := A.eval V, born := c }) (c + 1)) }, .skip, Emb.le.refl _, ?_, ?_, .tuple _ _ .nil⟩
          · rw [hex]
            simp only [Instr.mapUpdate, Sem.run_bind, run_underlying ht, Result.andThen, getObj, Sem.run, h2, hck, g1, setObj]
          · refine H.turnMap (c' := c + 1) hget hi ⟨?_, ?_⟩ w.drawn
            · simpa using h3.1.append (.cons _ _ _ _ hk .nil)
            · simpa using h3.2.append (.cons _ _ _ _ hv .nil)
      · simp at e
    · simp at e

theorem sim_delete (H : Inv K ι h w) {t kt el : TypeId} {kc : KT} (ht : P.underlying t = some (.map kt el)) (hf : kc.fits P kt = true) {M Y : Operand} {m k : CX} (hm : VR ι (m.ev a) (A.eval M)) (hk : VR ι (k.ev a) (A.eval Y)) {ats : Array TypeId} (hat : ats[0]? = some t)
    {o : Oper} (ho : o.op = .call { callee := .builtin .delete, args := #[M, Y], argTypes := ats }) {r : CRes} {h' : Heap} (e : cop (.delete kc m k) a h = some (r, h')) : Out P K ι r h' (execOp A.eval o) w := by
  simp only [cop] at e
  split at e
  · simp at e
  · next hok =>
    have hok : keyok kc (k.ev a) = true := by simpa using hok
    have hck := fun em => run_checkKey_kt (P := P) (w := w) hf hk hok em 9998
    have hex : (execOp A.eval o).run P w = ((Builtin.delete_ ats o.type #[A.eval M, A.eval Y]).run P w).andThen fun v w => .ok (.value v) w := by
      simp [execOp, ho, resolve, invoke, builtin, Result.andThen]
    generalize m.ev a = u at hm e
    generalize hM : A.eval M = M' at hm hex
    cases hm <;> simp at e
    · obtain ⟨rfl, rfl⟩ := e
      refine OutQ.out H (out_val H (v' := .tuple #[]) ?_ (.tuple _ _ .nil))
      rw [hex]
      simp [Builtin.delete_, hat, run_underlying ht, hck, Result.andThen]
    · next i b β ex hi =>
      split at e
      · next es hget =>
        obtain ⟨b1, e1, E, c, h1, h2, h3, h4⟩ := H.obj i _ hget
        rw [hi] at h1; simp at h1; obtain ⟨rfl, rfl, rfl⟩ := h1
        split at e
        · next j v0 hfk =>
          simp at e; obtain ⟨rfl, rfl⟩ := e
          obtain ⟨res', g1, g2⟩ := run_findKey' (P := P) (w := w) hf hk h3 hfk
          cases res' with
          | none => exact g2.elim
          | some q =>
            obtain ⟨j', v'⟩ := q
            obtain ⟨hjj, g2⟩ := g2
            subst hjj
            obtain ⟨n, hn1, hn2⟩ := findK_at hfk
            refine ⟨ι, { w with heap := w.heap.setIfInBounds b (.map (E.eraseIdxIfInBounds j) c) }, .value (.tuple #[]), Emb.le.refl _, ?_, ?_, .tuple _ _ .nil⟩
            · rw [hex]
              simp [Builtin.delete_, hat, run_underlying ht, hck, Result.andThen, getObj, Sem.run, h2, g1, setObj]
            · refine H.turnMap (c' := c) hget hi ?_ w.drawn
              have hE : (E.eraseIdxIfInBounds j).toList = E.toList.eraseIdx j := by simp
              exact ⟨by rw [hE]; rw [← eraseIdx_map']; rw [← eraseIdx_map']; exact h3.1.eraseIdx j, by rw [hE]; rw [← eraseIdx_map']; rw [← eraseIdx_map']; exact h3.2.eraseIdx j⟩
        · next hfk =>
          simp at e; obtain ⟨rfl, rfl⟩ := e
          obtain ⟨res', g1, g2⟩ := run_findKey' (P := P) (w := w) hf hk h3 hfk
          cases res' with
          | some q => exact g2.elim
          | none =>
            have hlt := (Array.getElem?_eq_some_iff.1 h2).1
            have hsame : w.heap.setIfInBounds b (.map E c) = w.heap := by
              apply Array.ext_getElem?
              intro q
              by_cases hq : b = q
              · subst hq; rw [h2]; simp [hlt]
              · rw [Array.getElem?_setIfInBounds_ne hq]
            refine OutQ.out H (out_val H (v' := .tuple #[]) ?_ (.tuple _ _ .nil))
            rw [hex]
            simp [Builtin.delete_, hat, run_underlying ht, hck, Result.andThen, getObj, Sem.run, h2, g1, setObj, hsame]
        · simp at e
      · simp at e

end
end Go.Proofs.YtmppoknfekdbbaaDoor.Cm
