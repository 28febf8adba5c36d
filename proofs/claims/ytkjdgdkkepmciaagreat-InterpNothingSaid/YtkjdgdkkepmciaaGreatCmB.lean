/-
  The clean machine, and what the law's functions do in it: part B of this claim's own texts. No conditions.
-/
import Derived.Test.YtkjdgdkkepmciaaGreatCmA
import Derived.WideKeyRuns
import Derived.IntWalk
import Derived.Laws.IdiomStrings
import Derived.Laws.LoneSync
import Derived.Laws.Tables
import Derived.Orders
import Derived.Defers
import Derived.RecoverIn
import Derived.Scope
import Derived.OrdersIn
import Derived.RangeFuncRecord
namespace Go.Proofs.YtkjdgdkkepmciaaGreat.Cm
open Go.RowKit
section
variable {P : Program} {K : Ctx} {ι : Emb} {h : Heap} {w : World} {a : List CVal} {A : Act}
theorem run_checkKey_plain' {k : PK} {d : TypeDesc} {t : TypeId} (ht : P.underlying t = some d) (hf : k.fits d = true) (em : Bool) (n : Nat) (v : Value) : (Instr.checkKey em (n + 1) t v).run P w = .ok () w := by
 unfold Instr.checkKey
 simp only [Sem.run_bind, run_underlying ht, Result.andThen]
 cases k <;> cases d <;> simp [PK.fits] at hf <;> cases v <;> simp
theorem run_checkKey_flat {t : TypeId} {ks : List PK} (hf : flatT P t ks = true) {as : List CVal} {as' : Array Value} (ha : VRs ι as as'.toList) (hl : as.length = ks.length) (em : Bool) (n : Nat) : (Instr.checkKey em (n + 2) t (.agg as')).run P w = .ok () w := by
 unfold flatT at hf
 split at hf
 ·next fs hfs =>
  simp only [Bool.and_eq_true, Bool.not_eq_true'] at hf
  have key : ∀ (fl : List Field) (kl : List PK) (j : Nat), flatFs P j fl kl = true → j + kl.length = ks.length → ∀ f : Field → PUnit → Sem (ForInStep PUnit),
    (∀ x u, f x u = (if x.name ≠ "_" then do let p ← part x.type as' x.offset; Instr.checkKey em (n + 1) x.type p; pure (ForInStep.yield PUnit.unit) else pure (ForInStep.yield PUnit.unit))) →
    (forIn fl PUnit.unit f).run P w = .ok PUnit.unit w := by
   intro fl
   induction fl with
   | nil => intro kl j _ _ f _; simp
   | cons x fl ih =>
    intro kl j hkl hj f hfx
    cases kl with
    | nil => simp [flatFs] at hkl
    | cons k kl =>
     simp only [flatFs, Bool.and_eq_true, beq_iff_eq, bne_iff_ne, ne_eq] at hkl
     obtain ⟨⟨⟨h1, h2⟩, h3⟩, h4⟩ := hkl
     split at h3
     ·next d hd =>
      simp at hj
      have hlt : j < as.length := by omega
      obtain ⟨v', hv1, hv2⟩ := ha.get j as[j] (by simp [hlt])
      have hv3 : as'[j]? = some v' := by simpa using hv1
      have hag := plain_agg (P := P) (w := w) hd h3
      have hck := run_checkKey_plain' (P := P) (w := w) hd h3 em n v'
      simp only [List.forIn_cons, hfx, ne_eq, h2, not_false_eq_true, if_true, Sem.run_bind, part, hag, Result.andThen, Bool.false_eq_true, if_false, h1, hv3, Sem.run_pure, hck]
      exact ih kl (j + 1) h4 (by omega) f hfx
     ·simp at h3
  unfold Instr.checkKey
  simp only [Sem.run_bind, run_underlying hfs, Result.andThen]
  rw [← Array.forIn_toList]
  have := key fs.toList ks 0 hf.1 (by simp) _ (fun x u => rfl)
  first | exact this | (rw [this]; rfl) | simp [this]
 ·simp at hf
theorem run_checkKey_kt {t : TypeId} {kt : KT} (hf : kt.fits P t = true) {v : CVal} {v' : Value} (hv : VR ι v v') (hk : keyok kt v = true) (em : Bool) (n : Nat) : (Instr.checkKey em (n + 2) t v').run P w = .ok () w := by
 cases kt with
 | one k =>
  simp only [KT.fits] at hf
  split at hf
  ·next d hd => exact run_checkKey_plain' hd hf em (n + 1) v'
  ·simp at hf
 | flat ks =>
  cases hv <;> simp [keyok] at hk
  next as as' ha => exact run_checkKey_flat hf ha hk.1 em n
theorem peq_eq {k : PK} {a b : CVal} (e : peq k a b = some true) : a = b := by
 cases k <;> cases a <;> cases b <;> simp [peq] at e <;> simp [e]
theorem peqs_eq : ∀ {ks : List PK} {as bs : List CVal}, peqs ks as bs = some true → as = bs
 | [], [], [], _ => rfl
 | k :: ks, a :: as, b :: bs, e => by
  simp only [peqs] at e
  cases hp : peq k a b with
  | none => rw [hp] at e; simp at e
  | some c =>
   rw [hp] at e
   cases c with
   | false => simp at e
   | true => simp at e; rw [peq_eq hp, peqs_eq e]
 | [], _ :: _, _, e => by simp [peqs] at e
 | [], [], _ :: _, e => by simp [peqs] at e
 | _ :: _, [], _, e => by simp [peqs] at e
 | _ :: _, _ :: _, [], e => by simp [peqs] at e
theorem keyeq_eq {kt : KT} {a b : CVal} (e : keyeq kt a b = some true) : a = b := by
 cases kt with
 | one k => exact peq_eq (by simpa [keyeq] using e)
 | flat ks => cases a <;> cases b <;> simp [keyeq] at e; rw [peqs_eq e]
def FR (ι : Emb) : Option (Nat × CVal) → Option (Nat × Value) → Prop
 | none, none => True
 | some (j, v), some (j', v') => j = j' ∧ VR ι v v'
 | _, _ => False
theorem EsR.cons_inv {e : CVal × CVal} {es : List (CVal × CVal)} {E : List MapEntry} (R : EsR ι (e :: es) E) : ∃ x xs, E = x :: xs ∧ VR ι e.1 x.key ∧ VR ι e.2 x.val ∧ EsR ι es xs := by
 obtain ⟨h1, h2⟩ := R
 cases E with
 | nil => simp at h1; cases h1
 | cons x xs =>
  simp only [List.map_cons] at h1 h2
  cases h1 with
  | cons _ _ _ _ a1 a2 => cases h2 with
   | cons _ _ _ _ b1 b2 => exact ⟨x, xs, rfl, a1, b1, a2, b2⟩
theorem EsR.nil_inv {E : List MapEntry} (R : EsR ι [] E) : E = [] := by
 have := R.1.length
 cases E with
 | nil => rfl
 | cons _ _ => simp at this
theorem run_findAsking {t : TypeId} {kt : KT} (hf : kt.fits P t = true) {k : CVal} {k' : Value} (hk : VR ι k k') : ∀ (es : List (CVal × CVal)) (E : List MapEntry) (i : Nat), EsR ι es E → ∀ res, findK kt k es i = some res → ∃ res', (Instr.findAsking t k' E i).run P w = .ok res' w ∧ FR ι res res'
 | [], E, i, R, res, e => by
  simp [findK] at e; subst e
  rw [R.nil_inv]
  exact ⟨none, by simp [Instr.findAsking], trivial⟩
 | e0 :: es, E, i, R, res, e => by
  obtain ⟨x, xs, rfl, h1, h2, h3⟩ := R.cons_inv
  simp only [findK] at e
  cases hq : keyeq kt k e0.1 with
  | none => rw [hq] at e; simp at e
  | some c =>
   rw [hq] at e
   have hr : (Op.equal t k' x.key).run P w = .ok c w := run_keyeq hf hk h1 hq 9998
   cases c with
   | true =>
    simp at e; subst e
    exact ⟨some (i, x.val), by simp [Instr.findAsking, hr], rfl, h2⟩
   | false =>
    simp at e
    obtain ⟨res', h4, h5⟩ := run_findAsking hf hk es xs (i + 1) h3 res e
    exact ⟨res', by simp [Instr.findAsking, hr, h4], h5⟩
theorem findNow_one {k : PK} {d : TypeDesc} (hf : k.fits d = true) {v : CVal} {v' : Value} (hv : VR ι v v') : ∀ (es : List (CVal × CVal)) (E : List MapEntry) (i : Nat), EsR ι es E → ∀ res, findK (.one k) v es i = some res → ∃ res', Instr.findNow d v' E i = some res' ∧ FR ι res res'
 | [], E, i, R, res, e => by
  simp [findK] at e; subst e
  rw [R.nil_inv]
  exact ⟨none, rfl, trivial⟩
 | e0 :: es, E, i, R, res, e => by
  obtain ⟨x, xs, rfl, h1, h2, h3⟩ := R.cons_inv
  simp only [findK, keyeq] at e
  cases hq : peq k v e0.1 with
  | none => rw [hq] at e; simp at e
  | some c =>
   rw [hq] at e
   have hr : Instr.sameNow d v' x.key = some c := by
    generalize e0.1 = u at h1 hq
    generalize x.key = u' at h1
    cases k <;> cases d <;> simp [PK.fits] at hf <;> cases hv <;> cases h1 <;> simp [peq] at hq
    ·subst hq; rfl
    ·obtain ⟨rfl, rfl⟩ := hq; simp [Instr.sameNow]
    ·next s1 s2 =>
     subst hq
     obtain ⟨⟨x1⟩⟩ := s1
     obtain ⟨⟨x2⟩⟩ := s2
     show some ((⟨x1⟩ : Array UInt8) == ⟨x2⟩) = _
     simp
   cases c with
   | true =>
    simp at e; subst e
    exact ⟨some (i, x.val), by simp [Instr.findNow, hr], rfl, h2⟩
   | false =>
    simp at e
    obtain ⟨res', h4, h5⟩ := findNow_one hf hv es xs (i + 1) h3 res e
    exact ⟨res', by simp [Instr.findNow, hr, h4], h5⟩
theorem run_findKey' {t : TypeId} {kt : KT} (hf : kt.fits P t = true) {k : CVal} {k' : Value} (hk : VR ι k k') {es : List (CVal × CVal)} {E : List MapEntry} (R : EsR ι es E) {res : Option (Nat × CVal)} (e : findK kt k es 0 = some res) :
  ∃ res', (Instr.findKey t k' E).run P w = .ok res' w ∧ FR ι res res' := by
 cases kt with
 | one p =>
  simp only [KT.fits] at hf
  split at hf
  ·next d hd =>
   obtain ⟨res', h1, h2⟩ := findNow_one hf hk es E 0 R res e
   exact ⟨res', by simp [Instr.findKey, run_underlying hd, h1], h2⟩
  ·simp at hf
 | flat ks =>
  obtain ⟨res', h1, h2⟩ := run_findAsking (P := P) (w := w) hf hk es E 0 R res e
  refine ⟨res', ?_, h2⟩
  rw [run_findKey_eq w ?_ k' E]
  ·exact h1
  ·simp only [KT.fits, flatT] at hf
   split at hf
   ·next fs hfs => simp [hfs]
   ·simp at hf
theorem Inv.mapAt (H : Inv K ι h w) {v : CVal} {v' : Value} (hv : VR ι v v') {es : List (CVal × CVal)} (hes : mapC h v = some es) :
  (v' = .map none ∧ es = []) ∨ ∃ b E c, v' = .map (some b) ∧ w.heap[b]? = some (.map E c) ∧ EsR ι es E.toList := by
 cases hv <;> simp [mapC] at hes
 ·exact .inl ⟨rfl, hes⟩
 ·next i b β ex hi =>
  split at hes
  ·next es' wr hget =>
   simp at hes; subst hes
   obtain ⟨b1, e1, E, c, h1, h2, h3, hst, h4⟩ := H.obj i _ hget
   rw [hi] at h1; simp at h1; obtain ⟨rfl, rfl, rfl⟩ := h1
   exact .inr ⟨b, E, c, rfl, h2, h3⟩
  ·simp at hes
theorem sim_lookup (H : Inv K ι h w) {t kt el : TypeId} {kc : KT} (ht : P.underlying t = some (.map kt el)) (hf : kc.fits P kt = true) {zv : Value} (hz : (zeroValue el).run P w = .ok zv w) {zero : CVal} (Rz : VR ι zero zv) {ok : Bool} {M Y : Operand} {m k : CX} (hm : VR ι (m.ev a) (A.eval M)) (hk : VR ι (k.ev a) (A.eval Y))
  {o : Oper} (ho : o.op = .lookup t M Y ok) {r : CRes} {h' : Heap} (e : cop (.lookup kc zero ok m k) a h = some (r, h')) : OutQ P ι h r h' (execOp A.eval o) w := by
 simp only [cop] at e
 split at e
 ·simp at e
 ·next hok =>
  have hok : keyok kc (k.ev a) = true := by simpa using hok
  split at e
  ·simp at e
  ·next es hes =>
   have hE : ∃ E : Array MapEntry, EsR ι es E.toList ∧ ∀ res', (Instr.findKey kt (A.eval Y) E.toList).run P w = .ok res' w → (execOp A.eval o).run P w = (match res' with | some (_, v) => .ok (.value (if ok then .tuple #[v, .bool true] else v)) w | none => .ok (.value (if ok then .tuple #[zv, .bool false] else zv)) w) := by
    have hck := fun em => run_checkKey_kt (P := P) (w := w) hf hk hok em 9998
    rcases H.mapAt hm hes with ⟨h1, h2⟩ | ⟨b, E, c, h1, h2, h3⟩
    ·subst h2
     refine ⟨#[], ⟨.nil, .nil⟩, fun res' hr => ?_⟩
     cases res' with
     | none => simp [execOp, ho, h1, Instr.lookup, run_underlying ht, hck, hr, hz, Result.andThen] <;> (split <;> rfl)
     | some q => simp [execOp, ho, h1, Instr.lookup, run_underlying ht, hck, hr, Result.andThen] <;> (split <;> rfl)
    ·refine ⟨E, h3, fun res' hr => ?_⟩
     cases res' with
     | none => simp [execOp, ho, h1, Instr.lookup, run_underlying ht, hck, hr, hz, Result.andThen, getObj, Sem.run, h2] <;> (split <;> rfl)
     | some q => simp [execOp, ho, h1, Instr.lookup, run_underlying ht, hck, hr, Result.andThen, getObj, Sem.run, h2] <;> (split <;> rfl)
   obtain ⟨E, hER, hrun⟩ := hE
   split at e
   ·next j v hfk =>
    simp at e; obtain ⟨rfl, rfl⟩ := e
    obtain ⟨res', h1, h2⟩ := run_findKey' (P := P) (w := w) hf hk hER hfk
    cases res' with
    | none => exact h2.elim
    | some q =>
     obtain ⟨j', v'⟩ := q
     obtain ⟨_, h2⟩ := h2
     refine out_val H (v' := if ok then .tuple #[v', .bool true] else v') (hrun _ h1) ?_
     cases ok
     ·exact h2
     ·exact .tuple _ _ (.cons _ _ _ _ h2 (.cons _ _ _ _ (.bool _) .nil))
   ·next hfk =>
    simp at e; obtain ⟨rfl, rfl⟩ := e
    obtain ⟨res', h1, h2⟩ := run_findKey' (P := P) (w := w) hf hk hER hfk
    cases res' with
    | some q => exact h2.elim
    | none =>
     refine out_val H (v' := if ok then .tuple #[zv, .bool false] else zv) (hrun _ h1) ?_
     cases ok
     ·exact Rz
     ·exact .tuple _ _ (.cons _ _ _ _ Rz (.cons _ _ _ _ (.bool _) .nil))
   ·simp at e
theorem run_keyStays {k : CVal} {o' n' : Value} (ho : VR ι k o') (hn : VR ι k n') : ∃ key' d, (Instr.keyThatStays o' n').run P w = .ok key' { w with drawn := d } ∧ VR ι k key' := by
 unfold Instr.keyThatStays
 split
 ·exact ⟨n', w.drawn, rfl, hn⟩
 ·refine ⟨if ((Question.extern "map.whichKeyStays" 2).cut (w.tape w.drawn (.extern "map.whichKeyStays" 2))) = 0 then n' else o', w.drawn + 1, ?_, by split <;> assumption⟩
  simp [choose, Sem.run, Question.forced, Result.andThen]
theorem VRs.eraseIdx {vs : List CVal} {vs' : List Value} : VRs ι vs vs' → ∀ j, VRs ι (vs.eraseIdx j) (vs'.eraseIdx j)
 | .nil, _ => .nil
 | .cons _ _ _ _ _ k, 0 => k
 | .cons _ _ _ _ h k, j + 1 => .cons _ _ _ _ h (k.eraseIdx j)
theorem eraseIdx_map' {α β : Type} (f : α → β) : ∀ (l : List α) (j : Nat), (l.map f).eraseIdx j = (l.eraseIdx j).map f
 | [], _ => rfl
 | _ :: _, 0 => rfl
 | x :: l, j + 1 => by simp [eraseIdx_map' f l j]
theorem EsR.set {es : List (CVal × CVal)} {E : Array MapEntry} (R : EsR ι es E.toList) (j : Nat) {k v : CVal} {k' v' : Value} (hk : VR ι k k') (hv : VR ι v v') : EsR ι (es.set j (k, v)) (E.modify j fun e => { e with key := k', val := v' }).toList := by
 have h1 : ((E.modify j fun e => { e with key := k', val := v' }).toList).map (·.key) = (E.toList.map (·.key)).set j k' := by
  apply List.ext_getElem?
  intro i
  simp [List.getElem?_set]
  by_cases hij : j = i
  ·subst hij
   cases hE : E[j]? with
   | none => simp [Array.getElem?_eq_none_iff.1 hE]
   | some x => simp [(Array.getElem?_eq_some_iff.1 hE).1]
  ·simp [hij]
 have h2 : ((E.modify j fun e => { e with key := k', val := v' }).toList).map (·.val) = (E.toList.map (·.val)).set j v' := by
  apply List.ext_getElem?
  intro i
  simp [List.getElem?_set]
  by_cases hij : j = i
  ·subst hij
   cases hE : E[j]? with
   | none => simp [Array.getElem?_eq_none_iff.1 hE]
   | some x => simp [(Array.getElem?_eq_some_iff.1 hE).1]
  ·simp [hij]
 refine ⟨?_, ?_⟩
 ·rw [h1, List.map_set]; exact R.1.set hk j
 ·rw [h2, List.map_set]; exact R.2.set hv j
theorem findK_at {kt : KT} {k : CVal} : ∀ {es : List (CVal × CVal)} {i j : Nat} {v : CVal}, findK kt k es i = some (some (j, v)) → ∃ n, j = i + n ∧ es[n]? = some (k, v)
 | [], i, j, v, e => by simp [findK] at e
 | x :: es, i, j, v, e => by
  simp only [findK] at e
  cases hq : keyeq kt k x.1 with
  | none => rw [hq] at e; simp at e
  | some c =>
   rw [hq] at e
   cases c with
   | true =>
    simp at e; obtain ⟨rfl, rfl⟩ := e
    exact ⟨0, rfl, by simp [keyeq_eq hq]⟩
   | false =>
    simp at e
    obtain ⟨n, h1, h2⟩ := findK_at e
    exact ⟨n + 1, by omega, by simpa using h2⟩
theorem stR.modify {st : Option (List Nat × Nat)} {E : Array MapEntry} {c j : Nat} {k' v' : Value} (q : stR st E c) : stR st (E.modify j fun e => { e with key := k', val := v' }) c := by
 unfold stR at q ⊢
 split at q
 ·trivial
 ·refine ⟨?_, q.2⟩
  rw [← q.1]
  apply List.ext_getElem?
  intro i
  simp
  by_cases hij : j = i
  ·subst hij
   cases hE : E[j]? with
   | none => simp [Array.getElem?_eq_none_iff.1 hE]
   | some x =>
    obtain ⟨hl, hx⟩ := Array.getElem?_eq_some_iff.1 hE
    simp [hl, hx]
  ·simp [hij]
theorem stR.push {st : Option (List Nat × Nat)} {E : Array MapEntry} {c : Nat} {k' v' : Value} (q : stR st E c) : stR (stPush st) (E.push { key := k', val := v', born := c }) (c + 1) := by
 cases st with
 | none => trivial
 | some p =>
  obtain ⟨bs, c'⟩ := p
  obtain ⟨q1, q2⟩ := q
  refine ⟨?_, by rw [q2]⟩
  simp [q1, q2]
theorem stR.erase {st : Option (List Nat × Nat)} {E : Array MapEntry} {c j : Nat} (q : stR st E c) : stR (stErase st j) (E.eraseIdxIfInBounds j) c := by
 cases st with
 | none => trivial
 | some p =>
  obtain ⟨bs, c'⟩ := p
  obtain ⟨q1, q2⟩ := q
  refine ⟨?_, q2⟩
  rw [show (E.eraseIdxIfInBounds j).toList = E.toList.eraseIdx j by simp, ← eraseIdx_map', q1]
theorem Inv.turnMap (H : Inv K ι h w) {i : Nat} {es es' : List (CVal × CVal)} {st st' : Option (List Nat × Nat)} (hget : h.get i = some (.map es true st)) {b β ex : Nat} (hi : ι i = some (b, β, ex)) {E' : Array MapEntry} {c' : Nat} (R : EsR ι es' E'.toList) (S : ∀ E c, stR st E c → w.heap[b]? = some (.map E c) → stR st' E' c') (d : Nat) :
  Inv K ι (h.set i (.map es' true st')) { w with heap := w.heap.setIfInBounds b (.map E' c'), drawn := d } := by
 obtain ⟨b1, e1, E, c, h1, h2, h3, hst, h4⟩ := H.obj i _ hget
 rw [hi] at h1; simp at h1; obtain ⟨rfl, rfl, rfl⟩ := h1
 have hlt := (Array.getElem?_eq_some_iff.1 h2).1
 refine H.turn (o' := .map es' true st') hget rfl hi _ rfl rfl rfl (by simp) (fun k hk => by simp [Array.getElem?_setIfInBounds_ne (Ne.symm hk)]) ?_
 exact ⟨b, ex, E', c', hi, by simp [hlt], R, S E c hst h2, fun hw => h4 hw⟩
theorem sim_mapUpdate (H : Inv K ι h w) {t kt el : TypeId} {kc : KT} (ht : P.underlying t = some (.map kt el)) (hf : kc.fits P kt = true) {M Y V : Operand} {m k v : CX} (hm : VR ι (m.ev a) (A.eval M)) (hk : VR ι (k.ev a) (A.eval Y)) (hv : VR ι (v.ev a) (A.eval V))
  {o : Oper} (ho : o.op = .mapUpdate t M Y V ∨ o.op = .insert t M Y V) {r : CRes} {h' : Heap} (e : cop (.mapUpdate kc m k v) a h = some (r, h')) : Out P K ι r h' (execOp A.eval o) w := by
 simp only [cop] at e
 split at e
 ·simp at e
 ·next hok =>
  have hok : keyok kc (k.ev a) = true := by simpa using hok
  have hck := run_checkKey_kt (P := P) (w := w) hf hk hok false 9998
  have hex : (execOp A.eval o).run P w = ((Instr.mapUpdate t (A.eval M) (A.eval Y) (A.eval V)).run P w).andThen fun _ w => .ok .skip w := by
   rcases ho with ho | ho <;> simp only [execOp, ho, Sem.run_bind, Sem.run_pure]
  generalize m.ev a = u at hm e
  generalize hM : A.eval M = M' at hm hex
  cases hm <;> simp at e
  next i b β ex hi =>
  split at e
  ·next es st hget =>
   obtain ⟨b1, e1, E, c, h1, h2, h3, hst, h4⟩ := H.obj i _ hget
   rw [hi] at h1; simp at h1; obtain ⟨rfl, rfl, rfl⟩ := h1
   split at e
   ·next j v0 hfk =>
    simp at e; obtain ⟨rfl, rfl⟩ := e
    obtain ⟨res', g1, g2⟩ := run_findKey' (P := P) (w := w) hf hk h3 hfk
    cases res' with
    | none => exact g2.elim
    | some q =>
     obtain ⟨j', v'⟩ := q
     obtain ⟨hjj, g2⟩ := g2
     subst hjj
     obtain ⟨n, hn1, hn2⟩ := findK_at hfk
     obtain rfl : j = n := by omega
     obtain ⟨ko, hko1, hko2⟩ := h3.1.get j (k.ev a) (by simp [hn2])
     obtain ⟨x, hx1, hx2⟩ : ∃ x, E[j]? = some x ∧ x.key = ko := by
      simp at hko1; exact hko1
     obtain ⟨key', d, hs1, hs2⟩ := run_keyStays (P := P) (w := w) (o' := x.key) (n' := A.eval Y) (hx2 ▸ hko2) hk
     refine ⟨ι, { w with heap := w.heap.setIfInBounds b (.map (E.modify j fun e => { e with key := key', val := A.eval V }) c), drawn := d }, .skip, Emb.le.refl _, ?_, H.turnMap hget hi (h3.set j hs2 hv) (fun E₀ c₀ q q' => by rw [h2] at q'; cases q'; exact q.modify) d, .tuple _ _ .nil⟩
     rw [hex]
     have hx3 : ((E[j]?.map (·.key)).getD (A.eval Y)) = x.key := by simp [hx1]
     simp only [Instr.mapUpdate, Sem.run_bind, run_underlying ht, Result.andThen, getObj, Sem.run, h2, hck, g1, hx3, hs1, setObj]
   ·next hfk =>
    simp at e; obtain ⟨rfl, rfl⟩ := e
    obtain ⟨res', g1, g2⟩ := run_findKey' (P := P) (w := w) hf hk h3 hfk
    cases res' with
    | some q => exact g2.elim
    | none =>
     refine ⟨ι, { w with heap := w.heap.setIfInBounds b (.map (E.push { key := A.eval Y, val := A.eval V, born := c }) (c + 1)) }, .skip, Emb.le.refl _, ?_, ?_, .tuple _ _ .nil⟩
     ·rw [hex]
      simp only [Instr.mapUpdate, Sem.run_bind, run_underlying ht, Result.andThen, getObj, Sem.run, h2, hck, g1, setObj]
     ·refine H.turnMap (c' := c + 1) hget hi ⟨?_, ?_⟩ (fun E₀ c₀ q q' => by rw [h2] at q'; cases q'; exact q.push) w.drawn
      ·simpa using h3.1.append (.cons _ _ _ _ hk .nil)
      ·simpa using h3.2.append (.cons _ _ _ _ hv .nil)
   ·simp at e
  ·simp at e
theorem sim_delete (H : Inv K ι h w) {t kt el : TypeId} {kc : KT} (ht : P.underlying t = some (.map kt el)) (hf : kc.fits P kt = true) {M Y : Operand} {m k : CX} (hm : VR ι (m.ev a) (A.eval M)) (hk : VR ι (k.ev a) (A.eval Y)) {ats : Array TypeId} (hat : ats[0]? = some t)
  {o : Oper} (ho : o.op = .call { callee := .builtin .delete, args := #[M, Y], argTypes := ats }) {r : CRes} {h' : Heap} (e : cop (.delete kc m k) a h = some (r, h')) : Out P K ι r h' (execOp A.eval o) w := by
 simp only [cop] at e
 split at e
 ·simp at e
 ·next hok =>
  have hok : keyok kc (k.ev a) = true := by simpa using hok
  have hck := fun em => run_checkKey_kt (P := P) (w := w) hf hk hok em 9998
  have hex : (execOp A.eval o).run P w = ((Builtin.delete_ ats o.type #[A.eval M, A.eval Y]).run P w).andThen fun v w => .ok (.value v) w := by
   simp [execOp, ho, resolve, invoke, builtin, Result.andThen]
  generalize m.ev a = u at hm e
  generalize hM : A.eval M = M' at hm hex
  cases hm <;> simp at e
  ·obtain ⟨rfl, rfl⟩ := e
   refine OutQ.out H (out_val H (v' := .tuple #[]) ?_ (.tuple _ _ .nil))
   rw [hex]
   simp [Builtin.delete_, hat, run_underlying ht, hck, Result.andThen]
  ·next i b β ex hi =>
   split at e
   ·next es st hget =>
    obtain ⟨b1, e1, E, c, h1, h2, h3, hst, h4⟩ := H.obj i _ hget
    rw [hi] at h1; simp at h1; obtain ⟨rfl, rfl, rfl⟩ := h1
    split at e
    ·next j v0 hfk =>
     simp at e; obtain ⟨rfl, rfl⟩ := e
     obtain ⟨res', g1, g2⟩ := run_findKey' (P := P) (w := w) hf hk h3 hfk
     cases res' with
     | none => exact g2.elim
     | some q =>
      obtain ⟨j', v'⟩ := q
      obtain ⟨hjj, g2⟩ := g2
      subst hjj
      obtain ⟨n, hn1, hn2⟩ := findK_at hfk
      refine ⟨ι, { w with heap := w.heap.setIfInBounds b (.map (E.eraseIdxIfInBounds j) c) }, .value (.tuple #[]), Emb.le.refl _, ?_, ?_, .tuple _ _ .nil⟩
      ·rw [hex]
       simp [Builtin.delete_, hat, run_underlying ht, hck, Result.andThen, getObj, Sem.run, h2, g1, setObj]
      ·refine H.turnMap (c' := c) hget hi ?_ (fun E₀ c₀ q q' => by rw [h2] at q'; cases q'; exact q.erase) w.drawn
       have hE : (E.eraseIdxIfInBounds j).toList = E.toList.eraseIdx j := by simp
       exact ⟨by rw [hE]; rw [← eraseIdx_map']; rw [← eraseIdx_map']; exact h3.1.eraseIdx j, by rw [hE]; rw [← eraseIdx_map']; rw [← eraseIdx_map']; exact h3.2.eraseIdx j⟩
    ·next hfk =>
     simp at e; obtain ⟨rfl, rfl⟩ := e
     obtain ⟨res', g1, g2⟩ := run_findKey' (P := P) (w := w) hf hk h3 hfk
     cases res' with
     | some q => exact g2.elim
     | none =>
      have hlt := (Array.getElem?_eq_some_iff.1 h2).1
      have hsame : w.heap.setIfInBounds b (.map E c) = w.heap := by
       apply Array.ext_getElem?
       intro q
       by_cases hq : b = q
       ·subst hq; rw [h2]; simp [hlt]
       ·rw [Array.getElem?_setIfInBounds_ne hq]
      refine OutQ.out H (out_val H (v' := .tuple #[]) ?_ (.tuple _ _ .nil))
      rw [hex]
      simp [Builtin.delete_, hat, run_underlying ht, hck, Result.andThen, getObj, Sem.run, h2, g1, setObj, hsame]
    ·simp at e
   ·simp at e
theorem sim_mapEntry (H : Inv K ι h w) {t kt el : TypeId} {kc : KT} (ht : P.underlying t = some (.map kt el)) (hf : kc.fits P kt = true) {zv : Value} (hz : (zeroValue el).run P w = .ok zv w) {zero : CVal} (Rz : VR ι zero zv) {M Y : Operand} {m k : CX} (hm : VR ι (m.ev a) (A.eval M)) (hk : VR ι (k.ev a) (A.eval Y))
  {o : Oper} (ho : o.op = .mapEntry t M Y) {r : CRes} {h' : Heap} (e : cop (.mapEntry kc zero m k) a h = some (r, h')) : Out P K ι r h' (execOp A.eval o) w := by
 simp only [cop] at e
 split at e
 ·simp at e
 ·next hok =>
  have hok : keyok kc (k.ev a) = true := by simpa using hok
  have hck := run_checkKey_kt (P := P) (w := w) hf hk hok false 9998
  have hex : (execOp A.eval o).run P w = ((Instr.mapEntry t (A.eval M) (A.eval Y)).run P w).andThen fun v w => .ok (.value v) w := by
   simp only [execOp, ho, Sem.run_bind, Sem.run_pure]
  generalize m.ev a = u at hm e
  generalize hM : A.eval M = M' at hm hex
  cases hm <;> simp at e
  next i b β ex hi =>
  split at e
  ·next es bs c hget =>
   obtain ⟨b1, e1, E, c1, h1, h2, h3, hst, h4⟩ := H.obj i _ hget
   rw [hi] at h1; simp at h1; obtain ⟨rfl, rfl, rfl⟩ := h1
   obtain ⟨hbs, rfl⟩ := hst
   split at e
   ·next j v0 hfk =>
    split at e
    ·next bn hbn =>
     simp at e; obtain ⟨rfl, rfl⟩ := e
     obtain ⟨res', g1, g2⟩ := run_findKey' (P := P) (w := w) hf hk h3 hfk
     cases res' with
     | none => exact g2.elim
     | some q =>
      obtain ⟨j', v'⟩ := q
      obtain ⟨hjj, g2⟩ := g2
      subst hjj
      obtain ⟨n, hn1, hn2⟩ := findK_at hfk
      obtain rfl : j = n := by omega
      obtain ⟨ko, hko1, hko2⟩ := h3.1.get j (k.ev a) (by simp [hn2])
      obtain ⟨x, hx1, hx2⟩ : ∃ x, E[j]? = some x ∧ x.key = ko := by
       simp at hko1; exact hko1
      obtain ⟨key', d, hs1, hs2⟩ := run_keyStays (P := P) (w := w) (o' := x.key) (n' := A.eval Y) (hx2 ▸ hko2) hk
      have hxb : x.born = bn := by
       rw [← hbs, List.getElem?_map, Array.getElem?_toList, hx1] at hbn
       simpa using hbn
      obtain ⟨vo, hvo1, hvo2⟩ := h3.2.get j v0 (by simp [hn2])
      obtain ⟨x', hx1', hx2'⟩ : ∃ x, E[j]? = some x ∧ x.val = vo := by
       simp at hvo1; exact hvo1
      rw [hx1] at hx1'; simp at hx1'; subst hx1'
      have hmod : (E.modify j fun e => { e with key := key' }) = (E.modify j fun e => { e with key := key', val := x.val }) := by
       apply Array.ext_getElem?
       intro q
       rw [Array.getElem?_modify, Array.getElem?_modify]
       by_cases hq : j = q
       ·subst hq; simp [hx1]
       ·simp [hq]
      refine ⟨ι, { w with heap := w.heap.setIfInBounds b (.map (E.modify j fun e => { e with key := key' }) c1), drawn := d }, .value (.tuple #[v', goInt bn]), Emb.le.refl _, ?_, ?_, .tuple _ _ (.cons _ _ _ _ g2 (.cons _ _ _ _ (.int _ _) .nil))⟩
      ·rw [hex]
       have hx3 : ((E[j]?.map (·.key)).getD (A.eval Y)) = x.key := by simp [hx1]
       have hx4 : ((E[j]?.map fun e => (e.born : Int)).getD 0) = bn := by simp [hx1, hxb]
       simp only [Instr.mapEntry, Sem.run_bind, Sem.run_pure, run_underlying ht, Result.andThen, getObj, Sem.run, h2, hck, g1, hx3, hx4, hs1, setObj]
      ·rw [hmod]
       exact H.turnMap hget hi (h3.set j hs2 (hx2' ▸ hvo2)) (fun E₀ c₀ q q' => by rw [h2] at q'; cases q'; exact q.modify) d
    ·simp at e
   ·next hfk =>
    simp at e; obtain ⟨rfl, rfl⟩ := e
    obtain ⟨res', g1, g2⟩ := run_findKey' (P := P) (w := w) hf hk h3 hfk
    cases res' with
    | some q => exact g2.elim
    | none =>
     refine ⟨ι, { w with heap := w.heap.setIfInBounds b (.map (E.push { key := A.eval Y, val := zv, born := c1 }) (c1 + 1)) }, .value (.tuple #[zv, goInt c1]), Emb.le.refl _, ?_, ?_, .tuple _ _ (.cons _ _ _ _ Rz (.cons _ _ _ _ (.int _ _) .nil))⟩
     ·rw [hex]
      simp only [Instr.mapEntry, Sem.run_bind, Sem.run_pure, run_underlying ht, Result.andThen, getObj, Sem.run, h2, hck, g1, hz, setObj]
     ·refine H.turnMap (c' := c1 + 1) hget hi ⟨?_, ?_⟩ (fun E₀ c₀ q q' => by rw [h2] at q'; cases q'; exact q.push) w.drawn
      ·simpa using h3.1.append (.cons _ _ _ _ hk .nil)
      ·simpa using h3.2.append (.cons _ _ _ _ Rz .nil)
   ·simp at e
  ·simp at e
theorem findIdx_born {bs : List Nat} {E : Array MapEntry} {n : Int} (hb : E.toList.map (·.born) = bs) : E.findIdx? (fun e => (e.born : Int) == n) = bs.findIdx? (fun (b : Nat) => (b : Int) == n) := by
 subst hb
 obtain ⟨l⟩ := E
 rw [List.findIdx?_toArray]
 simp only
 induction l with
 | nil => rfl
 | cons x l ih => simp only [List.map_cons, List.findIdx?_cons, ih]
theorem sim_entryStore (H : Inv K ι h w) {t : TypeId} {M S V : Operand} {m s v : CX} (hm : VR ι (m.ev a) (A.eval M)) (hs : VR ι (s.ev a) (A.eval S)) (hv : VR ι (v.ev a) (A.eval V))
  {o : Oper} (ho : o.op = .entryStore t M S V) {r : CRes} {h' : Heap} (e : cop (.entryStore m s v) a h = some (r, h')) : Out P K ι r h' (execOp A.eval o) w := by
 simp only [cop] at e
 have hex : (execOp A.eval o).run P w = ((Instr.entryStore t (A.eval M) (A.eval S) (A.eval V)).run P w).andThen fun _ w => .ok .skip w := by
  simp only [execOp, ho, Sem.run_bind, Sem.run_pure]
 generalize m.ev a = u at hm e
 generalize hM : A.eval M = M' at hm hex
 generalize s.ev a = u2 at hs e
 generalize hS : A.eval S = S' at hs hex
 cases hm <;> cases hs <;> simp at e
 next i b β ex hi kk n =>
 split at e
 ·next es bs c hget =>
  obtain ⟨b1, e1, E, c1, h1, h2, h3, hst, h4⟩ := H.obj i _ hget
  rw [hi] at h1; simp at h1; obtain ⟨rfl, rfl, rfl⟩ := h1
  obtain ⟨hbs, rfl⟩ := hst
  split at e
  ·next j hj =>
   split at e
   ·next k0 v0 hes =>
    simp at e; obtain ⟨rfl, rfl⟩ := e
    obtain ⟨ko, hko1, hko2⟩ := h3.1.get j k0 (by simp [hes])
    obtain ⟨x, hx1, hx2⟩ : ∃ x, E[j]? = some x ∧ x.key = ko := by
     simp at hko1; exact hko1
    have hmod : (E.modify j fun e => { e with val := A.eval V }) = (E.modify j fun e => { e with key := x.key, val := A.eval V }) := by
     apply Array.ext_getElem?
     intro q
     rw [Array.getElem?_modify, Array.getElem?_modify]
     by_cases hq : j = q
     ·subst hq; simp [hx1]
     ·simp [hq]
    refine ⟨ι, { w with heap := w.heap.setIfInBounds b (.map (E.modify j fun e => { e with val := A.eval V }) c1), drawn := w.drawn }, .skip, Emb.le.refl _, ?_, ?_, .tuple _ _ .nil⟩
    ·rw [hex]
     have has : (asInt (Value.int kk n)).run P w = .ok n w := rfl
     simp only [Instr.entryStore, Sem.run_bind, Result.andThen, getObj, Sem.run, h2, has, findIdx_born hbs, hj, setObj]
    ·rw [hmod]
     exact H.turnMap hget hi (h3.set j (hx2 ▸ hko2) hv) (fun E₀ c₀ q q' => by rw [h2] at q'; cases q'; exact q.modify) w.drawn
   ·simp at e
  ·simp at e
 ·simp at e
def noIface : TypeDesc → Bool
 | .interface _ => false
 | _ => true
theorem sim_assert (H : Inv K ι h w) {xt at' : TypeId} {d : TypeDesc} (hu : P.underlying at' = some d) (hd : noIface d = true) {zv : Value} (hz : (zeroValue at').run P w = .ok zv w) {zero : CVal} (Rz : VR ι zero zv) {ok : Bool} {X : Operand} {x : CX} (hx : VR ι (x.ev a) (A.eval X))
  {o : Oper} (ho : o.op = .typeAssert X xt at' ok) {r : CRes} {h' : Heap} (e : cop (.assert at' zero ok x) a h = some (r, h')) : OutQ P ι h r h' (execOp A.eval o) w := by
 simp only [cop] at e
 split at e
 ·next hn =>
  rw [hn] at hx
  have h1 : A.eval X = .nilIface := by generalize A.eval X = y at hx; cases hx; rfl
  split at e
  ·next hok =>
   simp only [Option.some.injEq, Prod.mk.injEq] at e; obtain ⟨rfl, rfl⟩ := e
   refine out_val H (v' := .tuple #[zv, .bool false]) ?_ (.tuple _ _ (.cons _ _ _ _ Rz (.cons _ _ _ _ (.bool _) .nil)))
   cases d <;> simp [noIface] at hd <;> simp [execOp, ho, hok, h1, Instr.typeAssert, run_underlying hu, hz, Result.andThen]
  ·simp at e
 ·next t' v hn =>
  rw [hn] at hx
  obtain ⟨v', h1, hv⟩ : ∃ v', A.eval X = .iface t' v' ∧ VR ι v v' := by generalize A.eval X = y at hx; cases hx; exact ⟨_, rfl, ‹_›⟩
  split at e
  ·next ht =>
   subst ht
   simp only [Option.some.injEq, Prod.mk.injEq] at e; obtain ⟨rfl, rfl⟩ := e
   cases ok with
   | true =>
    refine out_val H (v' := .tuple #[v', .bool true]) ?_ (.tuple _ _ (.cons _ _ _ _ hv (.cons _ _ _ _ (.bool _) .nil)))
    cases d <;> simp [noIface] at hd <;> simp [execOp, ho, h1, Instr.typeAssert, run_underlying hu, Result.andThen]
   | false =>
    refine out_val H (v' := v') ?_ hv
    cases d <;> simp [noIface] at hd <;> simp [execOp, ho, h1, Instr.typeAssert, run_underlying hu, Result.andThen]
  ·next ht =>
   split at e
   ·next hok =>
    simp only [Option.some.injEq, Prod.mk.injEq] at e; obtain ⟨rfl, rfl⟩ := e
    refine out_val H (v' := .tuple #[zv, .bool false]) ?_ (.tuple _ _ (.cons _ _ _ _ Rz (.cons _ _ _ _ (.bool _) .nil)))
    have ht' : ¬ t' = at' := fun q => ht q.symm
    cases d <;> simp [noIface] at hd <;> simp [execOp, ho, hok, h1, ht', Instr.typeAssert, run_underlying hu, hz, Result.andThen]
   ·simp at e
 ·simp at e
end
section
variable {P : Program} {K : Ctx} {ι : Emb} {h : Heap} {w : World} {a : List CVal} {A : Act}
theorem bytes_rel (s : List UInt8) : VRs ι (s.map fun b => CVal.int .u8 b.toNat) (s.map fun b => Value.int .u8 b.toNat) := VRs.map_of _ _ s fun _ _ => .int _ _
theorem run_src (H : Inv K ι h w) {sz n : Nat} {v : CVal} {v' : Value} (hv : VR ι v v') {cs : List CVal} (e : srcC h sz v = some (n, cs)) :
  (Builtin.lenOf v').run P w = .ok n w ∧ cs.length = n * sz ∧ ∀ m, m ≤ n → ∃ cs' : Array Value, (∀ d, (Builtin.firstCells sz m v').run P { w with drawn := d } = .ok cs' { w with drawn := d }) ∧ VRs ι (cs.take (m * sz)) cs'.toList := by
 cases hv <;> simp only [srcC, reduceCtorEq] at e
 ·rename_i s
  split at e
  ·next h1 =>
   simp only [Option.some.injEq, Prod.mk.injEq] at e
   obtain ⟨rfl, rfl⟩ := e
   have hsz : s.data.toList.length = s.size := by rw [Array.length_toList]; rfl
   refine ⟨by rw [hsz]; rfl, by rw [h1]; simp, fun m hm => ⟨((s.extract 0 m).data.map fun b => .int .u8 b.toNat), fun d => rfl, ?_⟩⟩
   have := bytes_rel (ι := ι) ((s.data.toList).take m)
   rw [Array.toList_map, extract_toList, h1]
   simpa [List.map_take] using this
  ·simp at e
 ·simp at e
  obtain ⟨rfl, rfl⟩ := e
  refine ⟨by simp [Builtin.lenOf], by simp, fun m hm => ⟨#[], fun d => by simp [Builtin.firstCells], by simp; exact .nil⟩⟩
 ·rename_i j p l c b β ex ad hi ha hlc
  by_cases h0 : l = 0
  ·simp [h0] at e
   obtain ⟨rfl, rfl⟩ := e
   subst h0
   refine ⟨by simp [Builtin.lenOf], by simp, fun m hm => ⟨#[], fun d => ?_, by simp; exact .nil⟩⟩
   obtain rfl : m = 0 := by omega
   simp [Builtin.firstCells, loadCells, loadCellsFrom]
  ·simp only [h0, if_false] at e
   obtain rfl : ad = ⟨b, β + p, none⟩ := ha.resolve_right (by omega)
   split at e
   ·next us wr opn hget =>
    split at e
    ·next hl =>
     simp only [Option.some.injEq, Prod.mk.injEq] at e
     obtain ⟨rfl, rfl⟩ := e
     refine ⟨by simp [Builtin.lenOf], hl, fun m hm => ?_⟩
     have hm' : m * sz ≤ l * sz := Nat.mul_le_mul_right _ hm
     obtain ⟨us', hr, R⟩ := H.loads (P := P) (n := m * sz) (us := ((us.drop p).take (l * sz)).take (m * sz)) hget (by rw [List.take_take, Nat.min_eq_left hm']) (by rw [List.length_take, hl]; omega) hi
     exact ⟨us', hr, R⟩
    ·simp at e
   ·simp at e
theorem growBy_le (n : Nat) : ∀ (k c : Nat), c < n → Builtin.growBy n k c ≤ 2 * n + 200
 | 0, c, h => by simp [Builtin.growBy]; omega
 | k + 1, c, h => by
  simp only [Builtin.growBy]
  rw [if_neg (by omega)]
  by_cases h1 : c + (c + 768) / 4 < n
  ·exact growBy_le n k _ h1
  ·cases k with
   | zero => simp [Builtin.growBy]; omega
   | succ k =>
    simp only [Builtin.growBy]
    rw [if_pos (by omega)]
    omega
theorem nextslicecap_le {n c : Nat} (h : c < n) : Builtin.nextslicecap n c ≤ 2 * n + 200 := by
 unfold Builtin.nextslicecap
 split
 ·omega
 ·split
  ·omega
  ·exact growBy_le n 4 c h
structure AppOk (P : Program) (ats : Array TypeId) (el : TypeId) (i : TypeInfo) (zv : Value) : Prop where
 t0 : ∃ t, ats[0]? = some t ∧ P.underlying t = some (.slice el)
 t1 : ∃ x d, ats[1]? = some x ∧ P.underlying x = some d ∧ (match d with | .int _ => true | _ => false) = false
 info : P.info? el = some i
 zero : i.zero = some zv
 size : zv.cells.size = i.size
 bytes : 0 < i.bytes ∧ i.bytes ≤ 1048576
theorem run_append_room' {ats : Array TypeId} {el : TypeId} {i : TypeInfo} {zv : Value} (T : AppOk P ats el i zv) (ty : TypeId) {base : Option Addr} {sLen sCap n : Nat} {x : Value} (hl : (Builtin.lenOf x).run P w = .ok n w) {news : Array Value} (hn : (Builtin.firstCells i.size n x).run P w = .ok news w)
  (hroom : sLen + n ≤ sCap) {w' : World} (hs : (match base with | some a => storeCells (a.add (sLen * i.size)) news.toList | none => pure () : Sem Unit).run P w = .ok () w') :
  (Builtin.append_ ats ty #[.slice base sLen sCap, x]).run P w = .ok (.slice base (sLen + n) sCap) w' := by
 obtain ⟨t, h0, h1⟩ := T.t0
 obtain ⟨t2, d2, h2, h3, h4⟩ := T.t1
 have hsz : (sizeOf el).run P w = .ok i.size w := by simp [sizeOf, typeInfo, T.info]
 cases d2 <;> first | (simp at h4; done) | skip
 all_goals
  simp only [Builtin.append_, h0, h2, List.getElem?_toArray, List.getElem?_cons_zero, List.getElem?_cons_succ, Sem.run_bind, run_underlying h1, run_underlying h3, Result.andThen, hsz, Sem.run_pure, Bool.false_eq_true, if_false, hl, Bool.not_false, if_true, hn, hroom]
  cases base with
  | none => simp at hs; subst hs; rfl
  | some ad => simp only at hs; simp only [Sem.run_bind, hs, Result.andThen, Sem.run_pure]
theorem run_append_grow' {ats : Array TypeId} {el : TypeId} {i : TypeInfo} {zv : Value} (T : AppOk P ats el i zv) (ty : TypeId) {base : Option Addr} {sLen sCap n : Nat} {x : Value} (hl : (Builtin.lenOf x).run P w = .ok n w) {news olds : Array Value} (hn : (Builtin.firstCells i.size n x).run P { w with drawn := w.drawn + 1 } = .ok news { w with drawn := w.drawn + 1 })
  (ho : (Builtin.firstCells i.size sLen (.slice base sLen sCap)).run P { w with drawn := w.drawn + 1 } = .ok olds { w with drawn := w.drawn + 1 }) (hgrow : sCap < sLen + n) (hfit : (sLen + n) * i.bytes ≤ 1099511627776) :
  ∃ newCap rest, sLen + n ≤ newCap ∧ rest.size = (newCap - (sLen + n)) * i.size ∧ (Builtin.append_ ats ty #[.slice base sLen sCap, x]).run P w = .ok (.slice (some ⟨w.heap.size, 0, none⟩) (sLen + n) newCap) { w with heap := w.heap.push (.cells (olds ++ news ++ rest) el), drawn := w.drawn + 1 } := by
 obtain ⟨t, h0, h1⟩ := T.t0
 obtain ⟨t2, d2, h2, h3, h4⟩ := T.t1
 have hsz : ∀ w, (sizeOf el).run P w = .ok i.size w := fun w => by simp [sizeOf, typeInfo, T.info]
 have hti : ∀ w, (typeInfo el).run P w = .ok i w := fun w => by simp [typeInfo, T.info]
 have hzv : ∀ w, (zeroValue el).run P w = .ok zv w := fun w => by simp [zeroValue, typeInfo, T.info, T.zero]
 have hb1 := T.bytes.1
 have hb2 := T.bytes.2
 have hneed : sLen + n ≤ 1099511627776 := Nat.le_trans (Nat.le_mul_of_pos_right _ hb1) hfit
 have hcap : Builtin.nextslicecap (sLen + n) sCap * i.bytes ≤ 281474976710656 := by
  have h2 := Nat.mul_le_mul_right i.bytes (nextslicecap_le hgrow)
  rw [Nat.add_mul, Nat.mul_assoc] at h2
  have : 200 * i.bytes ≤ 209715200 := by omega
  omega
 have hmax : IntKind.i64.max = 9223372036854775807 := by decide
 have c1 : ¬ (((sLen + n : Nat) : Int) > IntKind.i64.max ∧ (false = true ∨ i.bytes = 0)) := by rw [hmax]; omega
 have c2 : ¬ Builtin.nextslicecap (sLen + n) sCap * i.bytes > 2 ^ 48 := by omega
 refine ⟨(Question.appendCap (sLen + n) sCap el).cut (w.tape w.drawn (.appendCap (sLen + n) sCap el)), Builtin.zeroCells zv.cells ((Question.appendCap (sLen + n) sCap el).cut (w.tape w.drawn (.appendCap (sLen + n) sCap el)) - (sLen + n)), by simp [Question.cut], by simp [Builtin.zeroCells, T.size], ?_⟩
 have hask : ∀ (b : Nat) (w : World), (askRoom b).run P w = .ok () w := fun b w => by
  unfold askRoom
  split <;> simp [mark, Sem.run]
 cases d2 <;> first | (simp at h4; done) | skip
 all_goals
  simp only [Builtin.append_, h0, h2, List.getElem?_toArray, List.getElem?_cons_zero, List.getElem?_cons_succ, Sem.run_bind, run_underlying h1, run_underlying h3, Result.andThen, hsz, Sem.run_pure, Bool.false_eq_true, if_false, hl, Bool.not_false, if_true]
  rw [if_neg (by omega)]
  simp only [Sem.run_bind, hti, Result.andThen]
  rw [if_neg (by simpa using c1)]
  simp only [Sem.run_bind, hti, Result.andThen]
  rw [if_neg c2]
  simp only [Sem.run_bind, choose, Sem.run, Question.forced, Bool.false_eq_true, if_false, Result.andThen, hti, hask, ho, hn, hzv, Go.newRow, newObj, Sem.run_pure]
theorem Inv.grown (H : Inv K ι h w) {cs : List CVal} {cs' rest : Array Value} {el : TypeId} (R : VRs ι cs cs'.toList) (h1 : cs.all CVal.one = true) {sz ex : Nat} (hr : rest.size = ex * sz) :
  Inv K (ι.put h.next (w.heap.size, 0, ex)) (h.new (.cells cs true (some sz))) { w with heap := w.heap.push (.cells (cs' ++ rest) el), drawn := w.drawn + 1 } := by
 have hle := ι.le_put h.next (w.heap.size, 0, ex) (H.fresh _ (Nat.le_refl _)).1
 have hlen := R.length
 simp at hlen
 refine H.new (n := w.drawn + 1) (.cells cs true (some sz)) (.cells (cs' ++ rest) el) ex ?_
 refine ⟨w.heap.size, 0, ex, cs' ++ rest, el, 0, 0, Emb.put_same _ _ _, by simp, ?_, fun h0 => (by simp at h0), fun _ => ⟨fun hk => ?_, fun j hj => ?_⟩⟩
 ·intro j v hv
  obtain ⟨v', h2, h3⟩ := R.get j v hv
  refine ⟨List.all_eq_true.1 h1 v (List.mem_of_getElem? hv), v', ?_, h3.mono hle⟩
  have h4 : cs'[j]? = some v' := by simpa using h2
  have hlt := (Array.getElem?_eq_some_iff.1 h4).1
  rw [Nat.zero_add, Array.getElem?_append_left hlt]; exact h4
 ·have := H.hF _ hk; have := H.keep.size; omega
 ·simp at hj
  exact ⟨by simp; omega, by omega⟩
theorem run_storeCells_arr {P : Program} {b o lo hi : Nat} {el : TypeId} : ∀ (us : List Value) (k : Nat) (C : Array Value) (w : World), w.heap[b]? = some (.cells C el (lo, hi)) → (∀ j, j < us.length → o + k + j < C.size ∧ ¬ (lo ≤ o + k + j ∧ o + k + j < hi)) → (∀ u ∈ us, oneV u = true) →
  ∃ C' w', (storeCells ⟨b, o, none⟩ us k).run P w = .ok () w' ∧ w'.heap[b]? = some (.cells C' el (lo, hi)) ∧ C'.size = C.size ∧ (∀ (j : Nat) (u : Value), us[j]? = some u → C'[o + k + j]? = some u) ∧ (∀ p, (p < o + k ∨ o + k + us.length ≤ p) → C'[p]? = C[p]?) ∧
   (∀ q, q ≠ b → w'.heap[q]? = w.heap[q]?) ∧ w'.heap.size = w.heap.size ∧ w'.os = w.os ∧ w'.tape = w.tape ∧ w'.output = w.output
 | [], k, C, w, hb, _, _ => ⟨C, w, rfl, hb, rfl, fun j u h => by simp at h, fun _ _ => rfl, fun _ _ => rfl, rfl, rfl, rfl, rfl⟩
 | u :: us, k, C, w, hb, hin, h1 => by
  obtain ⟨hlt, hfz⟩ := hin 0 (by simp)
  simp only [Nat.add_zero] at hlt hfz
  have h2 : w.cell? ⟨b, o + k, none⟩ = some C[o + k] := (cell?_of w hb).trans (by simp [hlt])
  have h3 : w.frozen? ⟨b, o + k, none⟩ = false := by
   simp only [World.frozen?, hb, Bool.and_eq_false_iff, decide_eq_false_iff_not]
   omega
  have hst : (Go.store ⟨b, o + k, none⟩ u).run P w = .ok () (w.setCell ⟨b, o + k, none⟩ u) := by
   have h4 := h1 u (by simp)
   cases u <;> first | (simp [oneV] at h4; done) | simp [Go.store, Sem.run, h2, h3]
  have hb' : (w.setCell ⟨b, o + k, none⟩ u).heap[b]? = some (.cells (C.setIfInBounds (o + k) u) el (lo, hi)) := by
   simp [World.setCell, Array.getElem?_modify, hb]
  obtain ⟨C', w', g1, g2, g3, g4, g5, g6, g7, g8, g9, g10⟩ := run_storeCells_arr (P := P) us (k + 1) (C.setIfInBounds (o + k) u) _ hb' (fun j hj => by
   have := hin (j + 1) (by simp; omega)
   simp only [Array.size_setIfInBounds]
   rw [show o + (k + 1) + j = o + k + (j + 1) from by omega]; exact this) (fun x hx => h1 x (by simp [hx]))
  refine ⟨C', w', ?_, g2, by simpa using g3, ?_, ?_, ?_, by simpa [World.setCell] using g7, g8, g9, g10⟩
  ·simp only [storeCells, Sem.run_bind, add_addr, hst, Result.andThen, g1]
  ·intro j x hx
   cases j with
   | zero =>
    simp at hx; subst hx
    rw [Nat.add_zero, g5 (o + k) (.inl (by omega))]
    simp [hlt]
   | succ j =>
    have := g4 j x (by simpa using hx)
    rw [show o + k + (j + 1) = o + (k + 1) + j from by omega]; exact this
  ·intro p hp
   simp only [List.length_cons] at hp
   rw [g5 p (by omega), Array.getElem?_setIfInBounds_ne (by omega)]
  ·intro q hq
   rw [g6 q hq]
   simp [World.setCell, Array.getElem?_modify, Ne.symm hq]
theorem Inv.moveOn (H : Inv K ι h w) {i : Nat} {o o' : CObj} (hi : h.get i = some o) (hw : o.wr = true) {b β e : Nat} (hb : ι i = some (b, β, e)) (β' e' : Nat) (w' : World)
  (hos : w'.os = w.os) (ht : w'.tape = w.tape) (hout : w'.output = w.output) (hsz : w'.heap.size = w.heap.size)
  (hblk : ∀ k, k ≠ b → w'.heap[k]? = w.heap[k]?) (ho : ObjR (ι.put h.next (b, β', e')) w' K.glb.mod K.F h.next o') : Inv K (ι.put h.next (b, β', e')) ((h.kill i).new o') w' := by
 have hB : ¬ K.F b := by
  obtain ⟨b1, β1, e1, h1, _, h2⟩ := (H.obj i o hi).blk
  rw [hb] at h1; simp at h1; obtain ⟨rfl, _, _⟩ := h1; exact h2 hw
 have hfr := (H.fresh h.next (Nat.le_refl _)).1
 have hle := ι.le_put h.next (b, β', e') hfr
 have hget : ∀ j oj, ((h.kill i).new o').get j = some oj → (j = h.next ∧ oj = o') ∨ (j ≠ h.next ∧ j ≠ i ∧ h.get j = some oj) := by
  intro j oj hj
  rw [Heap.get_new, Heap.next_kill] at hj
  by_cases e1 : j = h.next
  ·rw [if_pos e1] at hj; simp at hj; exact .inl ⟨e1, hj.symm⟩
  ·rw [if_neg e1, Heap.get_kill] at hj
   by_cases e2 : j = i
   ·simp [e2] at hj
   ·rw [if_neg e2] at hj; exact .inr ⟨e1, e2, hj⟩
 have hni : i ≠ h.next := fun e1 => by rw [e1, (H.fresh h.next (Nat.le_refl _)).2] at hi; simp at hi
 have hoth : ∀ j oj b1 β1 e1, j ≠ i → h.get j = some oj → ι j = some (b1, β1, e1) → b1 ≠ b := fun j oj b1 β1 e1 hj hgj hbj e2 =>
  H.excl i j o oj b β e b1 β1 e1 (Ne.symm hj) hi hgj hw hb hbj e2.symm
 refine ⟨H.hF, ⟨hos.trans H.keep.os, ht.trans H.keep.tape, hout.trans H.keep.output, by rw [hsz]; exact H.keep.size, fun k hk => by rw [hblk k (fun e1 => hB (e1 ▸ hk))]; exact H.keep.block k hk⟩, fun g hg => hle _ _ (H.glob g hg), ?_, ?_, ?_, ?_, H.hG, ?_, fun j hj => ?_, fun j hj => ?_⟩
 ·intro j oj hj
  rcases hget j oj hj with ⟨rfl, rfl⟩ | ⟨h1, h2, h3⟩
  ·exact ho
  ·exact (H.obj j oj h3).mono hle fun b1 β1 e1 hb1 => hblk b1 (hoth j oj b1 β1 e1 h2 h3 hb1)
 ·intro j k oj ok b1 β1 e1 b2 β2 e2 hne hj hk hwj hb1 hb2
  rcases hget j oj hj with ⟨rfl, rfl⟩ | ⟨h1, h2, h3⟩
  ·rcases hget k ok hk with ⟨rfl, rfl⟩ | ⟨k1, k2, k3⟩
   ·exact absurd rfl hne
   ·rw [Emb.put_same] at hb1; simp at hb1
    rw [Emb.put_ne _ _ _ _ k1] at hb2
    rw [← hb1.1]; exact Ne.symm (hoth k ok b2 β2 e2 k2 k3 hb2)
  ·rw [Emb.put_ne _ _ _ _ h1] at hb1
   rcases hget k ok hk with ⟨rfl, rfl⟩ | ⟨k1, k2, k3⟩
   ·rw [Emb.put_same] at hb2; simp at hb2
    rw [← hb2.1]; exact hoth j oj b1 β1 e1 h2 h3 hb1
   ·rw [Emb.put_ne _ _ _ _ k1] at hb2
    exact H.excl j k oj ok b1 β1 e1 b2 β2 e2 hne h3 k3 hwj hb1 hb2
 ·intro j hj
  simp at hj
  rw [Emb.put_ne _ _ _ _ (by omega), Heap.get_new_ne _ _ _ (by simp; omega), Heap.get_kill]
  have := H.fresh j (by omega)
  exact ⟨this.1, by rw [this.2]; simp⟩
 ·intro j b1 β1 e1 hb1
  rw [hsz]
  by_cases e2 : j = h.next
  ·subst e2; rw [Emb.put_same] at hb1; simp at hb1; rw [← hb1.1]; exact H.inb _ _ _ _ hb
  ·rw [Emb.put_ne _ _ _ _ e2] at hb1; exact H.inb _ _ _ _ hb1
 ·intro j oj b1 β1 e1 hj hb1
  rcases hget j oj hj with ⟨rfl, rfl⟩ | ⟨h1, h2, h3⟩
  ·rw [Emb.put_same] at hb1; simp at hb1
   rw [← hb1.1]; exact H.hid i o b β e hi hb
  ·rw [Emb.put_ne _ _ _ _ h1] at hb1
   exact H.hid j oj b1 β1 e1 h3 hb1
 ·obtain ⟨h1, h2⟩ := H.nev j hj
  refine ⟨by simp; omega, ?_⟩
  rw [Heap.get_new_ne _ _ _ (by simp; omega), Heap.get_kill, h2]; simp
 ·obtain ⟨h1, h2⟩ := H.nul j hj
  exact ⟨by simp; omega, by rw [Emb.put_ne _ _ _ _ (by omega)]; exact h2⟩
theorem sim_append (H : Inv K ι h w) {ats : Array TypeId} {el : TypeId} {i : TypeInfo} {zv : Value} (T : AppOk P ats el i zv) {S X : Operand} {s x : CX} (hs : VR ι (s.ev a) (A.eval S)) (hx : VR ι (x.ev a) (A.eval X))
  {o : Oper} (ho : o.op = .call { callee := .builtin .append, args := #[S, X], argTypes := ats }) {r : CRes} {h' : Heap} (e : cop (.append i.size i.bytes s x) a h = some (r, h')) : Out P K ι r h' (execOp A.eval o) w := by
 simp only [cop] at e
 have hex : (execOp A.eval o).run P w = ((Builtin.append_ ats o.type #[A.eval S, A.eval X]).run P w).andThen fun v w => .ok (.value v) w := by
  simp [execOp, ho, resolve, invoke, builtin, Result.andThen]
 split at e
 ·next v h1' happ =>
  simp at e; obtain ⟨rfl, rfl⟩ := e
  unfold appendC at happ
  split at happ
  ·simp at happ
  ·next n new hsrc =>
   split at happ
   ·next hone =>
    obtain ⟨hl, hnewlen, hcells⟩ := run_src (P := P) H hx hsrc
    obtain ⟨news, hnewsd, Rn'⟩ := hcells n (Nat.le_refl _)
    have hnews : (Builtin.firstCells i.size n (A.eval X)).run P w = .ok news w := hnewsd w.drawn
    have Rn : VRs ι new news.toList := by rw [List.take_of_length_le (by omega)] at Rn'; exact Rn'
    have hnewone : ∀ u ∈ new, u.one = true := fun u hu => List.all_eq_true.1 hone u hu
    generalize s.ev a = u at hs happ
    generalize hS : A.eval S = S' at hs hex
    cases hs <;> simp only [reduceCtorEq] at happ
    ·
     split at happ
     ·next h0 =>
      simp at happ; obtain ⟨rfl, rfl⟩ := happ
      subst h0
      refine OutQ.out H (out_val H (v' := .slice none 0 0) ?_ .nilSlice)
      rw [hex, run_append_room' T o.type hl hnews (by omega) (w' := w) (by rfl)]
      rfl
     ·next h0 =>
      split at happ
      ·next hb =>
       simp at happ; obtain ⟨rfl, rfl⟩ := happ
       obtain ⟨newCap, rest, hc, hrest, hrun⟩ := run_append_grow' (base := none) (sLen := 0) (sCap := 0) (olds := #[]) T o.type hl (hnewsd _) (by simp [Builtin.firstCells]) (by omega) (by simpa using hb)
       refine ⟨_, _, .value _, ι.le_put h.next _ (H.fresh _ (Nat.le_refl _)).1, by rw [hex, hrun]; rfl, by simpa using H.grown (ex := newCap - (0 + n)) Rn hone hrest, ?_⟩
       have := VR.slice (ι := ι.put h.next (w.heap.size, 0, newCap - (0 + n))) h.next 0 n n w.heap.size 0 (newCap - (0 + n)) ⟨w.heap.size, 0, none⟩ (Emb.put_same _ _ _) (.inl rfl) (Nat.le_refl _)
       rw [show n + (newCap - (0 + n)) = newCap from by omega] at this
       show VR _ _ _
       simpa using this
      ·simp at happ
    ·rename_i i0 off l c b β ex ad hi ha hlc
     split at happ
     ·next h0 =>
      simp at happ; obtain ⟨rfl, rfl⟩ := happ
      subst h0
      have hn0 : news.toList = [] := by
       have := Rn.length
       rw [hnewlen] at this
       exact List.eq_nil_of_length_eq_zero (by omega)
      refine OutQ.out H (out_val H (v' := .slice (some ad) l (c + ex)) ?_ (.slice _ _ _ _ _ _ _ _ hi ha hlc))
      rw [hex, run_append_room' T o.type hl hnews (by omega) (w' := w) (by simp only [hn0]; rfl)]
      rfl
     ·next h0 =>
      split at happ
      ·next vs wr opn hget =>
       split at happ
       ·next hroom =>
        obtain rfl : ad = ⟨b, β + off, none⟩ := ha.resolve_right (by omega)
        split at happ
        ·next hw =>
         obtain ⟨hw, hfit⟩ := hw
         subst hw
         simp at happ; obtain ⟨rfl, rfl⟩ := happ
         obtain ⟨w', hst, H'⟩ := Inv.stores (P := P) (opn := opn) hi new news.toList vs (off + l * i.size) 0 h w H hget (by rw [hnewlen]; rw [Nat.add_mul] at hfit; omega) Rn hnewone
         have hrun := run_append_room' (base := some ⟨b, β + off, none⟩) T o.type hl hnews (show l + n ≤ c + ex by omega) (w' := w') (by show (storeCells ((⟨b, β + off, none⟩ : Addr).add (l * i.size)) news.toList).run P w = _; rw [add_addr, show β + off + l * i.size = β + (off + l * i.size) from by omega]; exact hst)
         exact ⟨ι, w', .value _, Emb.le.refl _, by rw [hex, hrun]; rfl, by simpa using H', .slice _ _ _ _ _ _ _ _ hi (.inl rfl) hroom⟩
        ·simp at happ
       ·next hroom =>
        split at happ
        ·next hb =>
         obtain ⟨hb, hol⟩ := hb
         obtain ⟨olds, holds, Ro⟩ : ∃ olds : Array Value, (∀ d, (loadCells ad (l * i.size)).run P { w with drawn := d } = .ok olds { w with drawn := d }) ∧ VRs ι ((vs.drop off).take (l * i.size)) olds.toList := by
          rcases ha with rfl | ha
          ·exact H.loads (P := P) (n := l * i.size) hget rfl hol hi
          ·obtain rfl : l = 0 := by omega
           refine ⟨#[], fun d => ?_, by simp; exact .nil⟩
           simp [loadCells, loadCellsFrom]
         have hoone : ((vs.drop off).take (l * i.size)).all CVal.one = true := by
          obtain ⟨C, el', lo, hi', hC, hR, _⟩ := H.cells hget hi
          refine List.all_eq_true.2 fun u hu => ?_
          obtain ⟨q, hq⟩ := List.mem_iff_getElem?.1 (List.mem_of_mem_take hu)
          rw [List.getElem?_drop] at hq
          exact (hR _ u hq).1
         have hall : ((vs.drop off).take (l * i.size) ++ new).all CVal.one = true := by
          simp only [List.all_append, hoone, hone, Bool.and_self]
         have Rall : VRs ι ((vs.drop off).take (l * i.size) ++ new) (olds ++ news).toList := by
          rw [Array.toList_append]; exact Ro.append Rn
         have hgrowRun : c + ex < l + n → ∃ newCap rest, l + n ≤ newCap ∧ rest.size = (newCap - (l + n)) * i.size ∧ (Builtin.append_ ats o.type #[.slice (some ad) l (c + ex), A.eval X]).run P w = .ok (.slice (some ⟨w.heap.size, 0, none⟩) (l + n) newCap) { w with heap := w.heap.push (.cells (olds ++ news ++ rest) el), drawn := w.drawn + 1 } := fun hg =>
          run_append_grow' (base := some ad) T o.type hl (hnewsd _) (holds _) hg hb
         split at happ
         ·
          simp at happ; obtain ⟨rfl, rfl⟩ := happ
          obtain ⟨C, el', lo, hi', hC, hR, h0e, _⟩ := H.cells hget hi
          obtain rfl := h0e rfl
          obtain ⟨newCap, rest, hc, hrest, hrun⟩ := hgrowRun (by omega)
          refine ⟨_, _, .value _, ι.le_put h.next _ (H.fresh _ (Nat.le_refl _)).1, by rw [hex, hrun]; rfl, H.grown (ex := newCap - (l + n)) Rall hall hrest, ?_⟩
          have := VR.slice (ι := ι.put h.next (w.heap.size, 0, newCap - (l + n))) h.next 0 (l + n) (l + n) w.heap.size 0 (newCap - (l + n)) ⟨w.heap.size, 0, none⟩ (Emb.put_same _ _ _) (.inl rfl) (Nat.le_refl _)
          rw [show l + n + (newCap - (l + n)) = newCap from by omega] at this
          exact this
         ·next sz' =>
          split at happ
          ·next hcond =>
           obtain ⟨rfl, rfl, hcap⟩ := hcond
           simp at happ; obtain ⟨rfl, rfl⟩ := happ
           by_cases hg : c + ex < l + n
           ·obtain ⟨newCap, rest, hc, hrest, hrun⟩ := hgrowRun hg
            refine ⟨_, _, .value _, ι.le_put h.next _ (H.fresh _ (Nat.le_refl _)).1, by rw [hex, hrun]; rfl, (H.kill i0).grown (ex := newCap - (l + n)) Rall hall hrest, ?_⟩
            have := VR.slice (ι := ι.put h.next (w.heap.size, 0, newCap - (l + n))) h.next 0 (l + n) (l + n) w.heap.size 0 (newCap - (l + n)) ⟨w.heap.size, 0, none⟩ (Emb.put_same _ _ _) (.inl rfl) (Nat.le_refl _)
            rw [show l + n + (newCap - (l + n)) = newCap from by omega] at this
            exact this
           ·obtain rfl : ad = ⟨b, β + off, none⟩ := ha.resolve_right (by omega)
            obtain ⟨C, el', lo, hi', hC, hR, h0e, hwr⟩ := H.cells hget hi
            obtain ⟨hB, hsp⟩ := hwr rfl
            simp only [Option.getD_some] at hsp
            have hnl : news.toList.length = n * i.size := by rw [← Rn.length]; exact hnewlen
            have hmul : (l + n) * i.size ≤ c * i.size + ex * i.size := by rw [← Nat.add_mul]; exact Nat.mul_le_mul_right _ (by omega)
            rw [Nat.add_mul] at hmul
            obtain ⟨C', w', g1, g2, g3, g4, g5, g6, g7, g8, g9, g10⟩ := run_storeCells_arr (P := P) (o := β + (off + l * i.size)) news.toList 0 C w hC (fun j hj => by
             have := hsp (off + l * i.size + j) (by omega)
             rw [show β + (off + l * i.size) + 0 + j = β + (off + l * i.size + j) from by omega]; exact this) (fun u hu => by
             obtain ⟨q, hq⟩ := List.mem_iff_getElem?.1 hu
             have hql := (List.getElem?_eq_some_iff.1 hq).1
             obtain ⟨u', hu1, hu2⟩ := Rn.get q new[q] (by simp)
             rw [hq] at hu1; simp at hu1; subst hu1
             exact hu2.one (hnewone _ (List.getElem_mem _)))
            have hrun := run_append_room' (base := some ⟨b, β + off, none⟩) T o.type hl hnews (show l + n ≤ c + ex by omega) (w' := w') (by show (storeCells ((⟨b, β + off, none⟩ : Addr).add (l * i.size)) news.toList).run P w = _; rw [add_addr, show β + off + l * i.size = β + (off + l * i.size) from by omega]; exact g1)
            have hle := ι.le_put h.next (b, β + off, c + ex - (l + n)) (H.fresh _ (Nat.le_refl _)).1
            refine ⟨_, w', .value _, hle, by rw [hex, hrun]; rfl, H.moveOn (o' := .cells ((vs.drop off).take (l * i.size) ++ new) true (some i.size)) hget rfl hi (β + off) (c + ex - (l + n)) w' g8 g9 g10 g7 g6 ?_, ?_⟩
            ·refine ⟨b, β + off, c + ex - (l + n), C', el', lo, hi', Emb.put_same _ _ _, g2, ?_, fun h0 => by simp at h0, fun _ => ⟨hB, fun j hj => ?_⟩⟩
             ·intro j v hv
              have hvone : v.one = true := List.all_eq_true.1 hall v (List.mem_of_getElem? hv)
              refine ⟨hvone, ?_⟩
              by_cases hj : j < l * i.size
              ·rw [List.getElem?_append_left (by omega), List.getElem?_take_of_lt hj, List.getElem?_drop] at hv
               obtain ⟨_, v', h6, h7⟩ := hR (off + j) v hv
               refine ⟨v', ?_, h7.mono hle⟩
               rw [g5 (β + off + j) (.inl (by omega)), show β + off + j = β + (off + j) from by omega]; exact h6
              ·rw [List.getElem?_append_right (by omega), hol] at hv
               obtain ⟨v', h6, h7⟩ := Rn.get _ v hv
               refine ⟨v', ?_, h7.mono hle⟩
               have := g4 _ v' h6
               rw [show β + (off + l * i.size) + 0 + (j - l * i.size) = β + off + j from by omega] at this; exact this
             ·simp only [List.length_append, hol, hnewlen, Option.getD_some] at hj
              have e1 : (c + ex - (l + n)) * i.size = c * i.size + ex * i.size - (l * i.size + n * i.size) := by rw [Nat.sub_mul, Nat.add_mul, Nat.add_mul]
              rw [e1] at hj
              have := hsp (off + j) (by omega)
              rw [g3, show β + off + j = β + (off + j) from by omega]; exact this
            ·have := VR.slice (ι := ι.put h.next (b, β + off, c + ex - (l + n))) h.next 0 (l + n) (l + n) b (β + off) (c + ex - (l + n)) ⟨b, β + off, none⟩ (Emb.put_same _ _ _) (.inl rfl) (Nat.le_refl _)
             rw [show l + n + (c + ex - (l + n)) = c + ex from by omega] at this
             exact this
          ·simp at happ
        ·simp at happ
      ·simp at happ
   ·simp at happ
 ·simp at e
end
section
variable {P : Program} {K : Ctx} {ι : Emb} {h : Heap} {w : World} {a : List CVal} {A : Act}
theorem sim_markB (H : Inv K ι h w) {src el : TypeId} (hs : P.underlying src = some (.slice el)) (he : P.underlying el = some (.int .u8)) {X : Operand} {x : CX} (hx : VR ι (x.ev a) (A.eval X))
  {o : Oper} (ho : o.op = .convert src src X) {r : CRes} {h' : Heap} (e : cop (.markB x) a h = some (r, h')) : Out P K ι r h' (execOp A.eval o) w := by
 simp only [cop] at e
 split at e
 ·next i p l c hev =>
  rw [hev] at hx
  split at e
  ·simp at e
  ·next hc =>
   split at e
   ·next vs hg =>
    simp only [Option.some.injEq, Prod.mk.injEq] at e
    obtain ⟨rfl, rfl⟩ := e
    generalize hX : A.eval X = X' at hx
    generalize hq : CVal.slice i p l c = q at hx
    cases hx with
    | slice i' p' l' c' b β ex ad h1 h2 h3 =>
     simp only [CVal.slice.injEq] at hq
     obtain ⟨rfl, rfl, rfl, rfl⟩ := hq
     obtain ⟨b', β', e', C, elt, lo, hi, g1, g2, g3, g4, g5⟩ := H.obj i _ hg
     rw [h1] at g1
     simp only [Option.some.injEq, Prod.mk.injEq] at g1
     obtain ⟨rfl, rfl, rfl⟩ := g1
     obtain rfl := g4 rfl
     have had : ad = ⟨b, β + p, none⟩ := by
      rcases h2 with h2 | h2
      ·exact h2
      ·omega
     subst had
     have hlt : b < w.heap.size := (Array.getElem?_eq_some_iff.1 g2).1
     let fz : Nat × Nat := if lo == hi then (C.size, C.size + 1) else (min lo C.size, max hi (C.size + 1))
     have hsh : w.shape? b = some (elt, C.size) := by unfold World.shape?; rw [g2]
     have hfr : (w.freeze ⟨b, C.size, none⟩ 1).heap[b]? = some (.cells C elt fz) := by
      unfold World.freeze
      rw [if_neg (by decide)]
      simp only [Array.getElem?_modify, if_true, g2, Option.map_some]
      rfl
     have hne : ∀ k, k ≠ b → (w.freeze ⟨b, C.size, none⟩ 1).heap[k]? = w.heap[k]? := by
      intro k hk
      unfold World.freeze
      rw [if_neg (by decide)]
      simp only [Array.getElem?_modify]
      rw [if_neg (fun e => hk e.symm)]
     have hrun : (convert src src (.slice (some ⟨b, β + p, none⟩) l (c + 0))).run P w = .ok (.slice (some ⟨b, β + p, none⟩) l (c + 0)) (w.freeze ⟨b, C.size, none⟩ 1) := by
      simp [convert, run_underlying hs, run_underlying he, markStringish, hsh]
     refine ⟨ι, w.freeze ⟨b, C.size, none⟩ 1, .value (.slice (some ⟨b, β + p, none⟩) l (c + 0)), Emb.le.refl _, ?_, ?_, ?_⟩
     ·simp only [execOp, ho, hX, Sem.run_bind, hrun, Result.andThen, Sem.run_pure]
     ·refine H.turn hg rfl h1 _ rfl rfl rfl (by unfold World.freeze; rw [if_neg (by decide)]; simp) hne ?_
      exact ⟨b, β, 0, C, elt, fz.1, fz.2, h1, hfr, g3, fun _ => rfl, fun hw => by simp at hw⟩
     ·exact .slice i p l c b β 0 _ h1 (.inl rfl) h3
    | _ => simp at hq
   ·simp at e
 ·simp at e
theorem sim_bytesOf (H : Inv K ι h w) {src dst el : TypeId} (hs : P.underlying src = some .string) (hd : P.underlying dst = some (.slice el)) (he : P.underlying el = some (.int .u8)) {X : Operand} {x : CX} (hx : VR ι (x.ev a) (A.eval X))
  {o : Oper} (ho : o.op = .convert src dst X) {r : CRes} {h' : Heap} (e : cop (.bytesOf x) a h = some (r, h')) : Out P K ι r h' (execOp A.eval o) w := by
 simp only [cop] at e
 split at e
 ·next s hev =>
  rw [hev] at hx
  split at e
  ·next hl =>
   simp at e; obtain ⟨rfl, rfl⟩ := e
   generalize hX : A.eval X = X' at hx
   cases hx with
   | str s' =>
    have hrun := run_bytes_of_string (P := P) w src dst el s' hs hd he
    generalize hcap : grownCap w s'.size 0 el = cap at hrun
    have hcap' : s'.size ≤ cap := by rw [← hcap]; simp [grownCap, Question.cut]
    have hsz : s'.data.toList.length = s'.size := by rw [Array.length_toList]; rfl
    have hle := ι.le_put h.next (w.heap.size, 0, cap - s'.size) (H.fresh _ (Nat.le_refl _)).1
    have hbs : (bytesRow s' cap).size = cap := by
     have : s'.data.size = s'.size := rfl
     simp [bytesRow, this]; omega
    refine ⟨ι.put h.next (w.heap.size, 0, cap - s'.size), { w with heap := w.heap.push (.cells (bytesRow s' cap) el ((bytesRow s' cap).size, (bytesRow s' cap).size + 1)), drawn := w.drawn + 1 }, .value (.slice (some ⟨w.heap.size, 0, none⟩) s'.size cap), hle, ?_, ?_, ?_⟩
    ·simp only [execOp, ho, hX, Sem.run_bind, hrun, Result.andThen, Sem.run_pure]
     rfl
    ·refine H.new (n := w.drawn + 1) _ _ (cap - s'.size) ⟨w.heap.size, 0, cap - s'.size, bytesRow s' cap, el, (bytesRow s' cap).size, (bytesRow s' cap).size + 1, Emb.put_same _ _ _, by simp, ?_, fun h0 => by simp at h0, fun _ => ⟨fun hk => ?_, fun j hj => ?_⟩⟩
     ·intro j v hv
      have hj := (List.getElem?_eq_some_iff.1 hv).1
      simp at hj
      have hj' : j < s'.data.size := hj
      rw [Nat.zero_add, bytesRow_at s' cap j hj']
      simp at hv
      obtain ⟨b, hb1, hb2⟩ := hv
      obtain ⟨_, hb3⟩ := Array.getElem?_eq_some_iff.1 hb1
      subst hb2; subst hb3
      exact ⟨rfl, _, rfl, .int _ _⟩
     ·have := H.hF _ hk; have := H.keep.size; omega
     ·simp only [List.length_map, hsz, Option.getD_some, Nat.mul_one] at hj
      rw [hbs]; omega
    ·have := VR.slice (ι := ι.put h.next (w.heap.size, 0, cap - s'.size)) h.next 0 s'.size s'.size w.heap.size 0 (cap - s'.size) ⟨w.heap.size, 0, none⟩ (Emb.put_same _ _ _) (.inl rfl) (Nat.le_refl _)
     rw [show s'.size + (cap - s'.size) = cap from by omega] at this
     rw [hsz]; exact this
  ·simp at e
 ·simp at e
theorem bytesC_rel : ∀ {cs : List CVal} {cs' : List Value} {bs : List UInt8}, VRs ι cs cs' → bytesC cs = some bs → ∃ ns : List Int, cs' = ns.map (Value.int .u8) ∧ bs = ns.map fun n => UInt8.ofNat n.toNat
 | [], _, bs, .nil, e => by simp [bytesC] at e; subst e; exact ⟨[], rfl, rfl⟩
 | c :: cs, _, bs, .cons _ _ v' vs' h1 h2, e => by
  simp only [bytesC] at e
  split at e
  ·next b bs' hb hbs =>
   simp at e; subst e
   obtain ⟨ns, h3, h4⟩ := bytesC_rel h2 hbs
   unfold byteC at hb
   split at hb
   ·next n =>
    simp at hb; subst hb
    cases h1
    exact ⟨n :: ns, by simp [h3], by simp [h4]⟩
   ·simp at hb
  ·simp at e
theorem push_fold (ns : List Int) : ∀ (b : ByteArray), (ns.foldl (fun r n => r.push (UInt8.ofNat n.toNat)) b).data.toList = b.data.toList ++ ns.map fun n => UInt8.ofNat n.toNat := by
 induction ns with
 | nil => intro b; simp
 | cons n ns ih =>
  intro b
  rw [List.foldl_cons, ih]
  simp [ByteArray.push]
theorem sim_strOf (H : Inv K ι h w) {src dst el : TypeId} (hs : P.underlying src = some (.slice el)) (hd : P.underlying dst = some .string) (he : P.underlying el = some (.int .u8)) {X : Operand} {x : CX} (hx : VR ι (x.ev a) (A.eval X))
  {o : Oper} (ho : o.op = .convert src dst X) {r : CRes} {h' : Heap} (e : cop (.strOf x) a h = some (r, h')) : OutQ P ι h r h' (execOp A.eval o) w := by
 simp only [cop] at e
 have hex : ∀ v', A.eval X = v' → (∃ ad l c, v' = .slice ad l c) → (execOp A.eval o).run P w = ((Conv.bytesToString v').run P w).andThen fun v w => .ok (.value v) w := by
  rintro v' rfl ⟨ad, l, c, hX⟩
  simp only [execOp, ho, hX, convert, Sem.run_bind, run_underlying hs, run_underlying hd, run_underlying he, Result.andThen, Sem.run_pure]
 split at e
 ·next hev =>
  rw [hev] at hx
  simp at e; obtain ⟨rfl, rfl⟩ := e
  generalize hX : A.eval X = X' at hx
  cases hx
  refine out_val H (v' := .string .empty) ?_ (.str ByteArray.empty)
  rw [hex _ hX ⟨_, _, _, rfl⟩]
  rfl
 ·next i off l c hev =>
  rw [hev] at hx
  generalize hX : A.eval X = X' at hx
  cases hx with
  | slice _ _ _ _ b β ex ad hi ha hlc =>
   split at e
   ·next h0 =>
    simp at e; obtain ⟨rfl, rfl⟩ := e
    subst h0
    refine out_val H (v' := .string .empty) ?_ (.str ByteArray.empty)
    rw [hex _ hX ⟨_, _, _, rfl⟩, run_bytesToString w ad 0 (c + ex) [] (by simp [loadCells, loadCellsFrom])]
    rfl
   ·next h0 =>
    obtain rfl : ad = ⟨b, β + off, none⟩ := ha.resolve_right (by omega)
    split at e
    ·next vs wr opn hget =>
     split at e
     ·next bs hbs =>
      split at e
      ·next hl =>
       simp at e; obtain ⟨rfl, rfl⟩ := e
       have hlen : ∀ {cs : List CVal} {bs : List UInt8}, bytesC cs = some bs → bs.length = cs.length := by
        intro cs
        induction cs with
        | nil => intro bs e; simp [bytesC] at e; subst e; rfl
        | cons c cs ih =>
         intro bs e
         simp only [bytesC] at e
         split at e
         ·next b' bs' h1 h2 => simp at e; subst e; simp [ih h2]
         ·simp at e
       obtain ⟨us', hrun, R⟩ := H.loads (P := P) (n := l) hget rfl (by rw [← hlen hbs]; exact hl) hi
       obtain ⟨ns, h3, h4⟩ := bytesC_rel R hbs
       have hr : (loadCells ⟨b, β + off, none⟩ l).run P w = .ok (ns.map (Value.int .u8)).toArray w := by
        rw [← h3]; simpa using hrun w.drawn
       refine out_val H (v' := .string (ns.foldl (fun r n => r.push (UInt8.ofNat n.toNat)) ByteArray.empty)) ?_ ?_
       ·rw [hex _ hX ⟨_, _, _, rfl⟩, run_bytesToString w _ l (c + ex) ns hr]
        rfl
       ·have := VR.str (ι := ι) (ns.foldl (fun r n => r.push (UInt8.ofNat n.toNat)) ByteArray.empty)
        rw [push_fold] at this
        rw [h4]; simpa using this
      ·simp at e
     ·simp at e
    ·simp at e
 ·simp at e
theorem sim_copy (H : Inv K ι h w) {ats : Array TypeId} {t el : TypeId} {sz : Nat} (hat : ats[0]? = some t) (ht : P.underlying t = some (.slice el)) (hn : (sizeOf el).run P w = .ok sz w) {D S : Operand} {d s : CX} (hd : VR ι (d.ev a) (A.eval D)) (hs : VR ι (s.ev a) (A.eval S))
  {o : Oper} (ho : o.op = .call { callee := .builtin .copy, args := #[D, S], argTypes := ats }) {r : CRes} {h' : Heap} (e : cop (.copy sz d s) a h = some (r, h')) : Out P K ι r h' (execOp A.eval o) w := by
 simp only [cop] at e
 have hex : (execOp A.eval o).run P w = ((Builtin.copy_ ats o.type #[A.eval D, A.eval S]).run P w).andThen fun v w => .ok (.value v) w := by
  simp [execOp, ho, resolve, invoke, builtin, Result.andThen]
 split at e
 ·next hev =>
  rw [hev] at hd
  generalize hD : A.eval D = D' at hd hex
  cases hd
  have hl : ∃ n, (Builtin.lenOf (A.eval S)).run P w = .ok n w ∧ r = .val (.int .i64 0) ∧ h' = h := by
   generalize s.ev a = u at hs e
   generalize A.eval S = S' at hs
   cases hs <;> simp at e <;> obtain ⟨rfl, rfl⟩ := e <;> exact ⟨_, rfl, rfl, rfl⟩
  obtain ⟨n, hl, rfl, rfl⟩ := hl
  have hfc : ∃ cs : Array Value, (Builtin.firstCells sz (Nat.min n 0) (A.eval S)).run P w = .ok cs w := by
   rw [show Nat.min n 0 = 0 from Nat.min_zero n]
   generalize A.eval S = S' at hl
   cases S' <;> first
    | (simp [Builtin.lenOf, stuck] at hl; done)
    | exact ⟨_, rfl⟩
    | (rename_i ad _ _; cases ad <;> exact ⟨#[], by simp [Builtin.firstCells, loadCells, loadCellsFrom]⟩)
  obtain ⟨cs, hfc⟩ := hfc
  refine OutQ.out H (out_val H (v' := .int .i64 0) ?_ (.int _ _))
  rw [hex]
  have hm : ((Nat.min n 0 : Nat) : Int) = 0 := by simp
  simp only [Builtin.copy_, hat, List.getElem?_toArray, List.getElem?_cons_zero, List.getElem?_cons_succ, Sem.run_bind, run_underlying ht, Result.andThen, hl, hn, hfc, Sem.run_pure, goInt, hm]
 ·next i off l c hev =>
  rw [hev] at hd
  split at e
  ·next n cs hsrc =>
   obtain ⟨hl, hlen, hcells⟩ := run_src (P := P) H hs hsrc
   generalize hD : A.eval D = D' at hd hex
   cases hd with
   | slice _ _ _ _ b β ex ad hi ha hlc =>
    obtain ⟨cs', hcs, R⟩ := hcells (min n l) (Nat.min_le_left _ _)
    have hcs : (Builtin.firstCells sz (Nat.min n l) (A.eval S)).run P w = .ok cs' w := hcs w.drawn
    have hex2 : ∀ w', (storeCells ad cs'.toList).run P w = .ok () w' → (execOp A.eval o).run P w = .ok (.value (.int .i64 (min n l : Nat))) w' := by
     intro w' hst
     rw [hex]
     simp only [Builtin.copy_, hat, List.getElem?_toArray, List.getElem?_cons_zero, List.getElem?_cons_succ, Sem.run_bind, run_underlying ht, Result.andThen, hl, hn, hcs, hst, Sem.run_pure, goInt]
    split at e
    ·next h0 =>
     simp at e; obtain ⟨rfl, rfl⟩ := e
     have h0' : cs'.toList = [] := by
      have := R.length
      rw [h0] at this; simp at this
      simpa using this.symm
     refine OutQ.out H (out_val H (v' := .int .i64 0) ?_ (.int _ _))
     have := hex2 w (by rw [h0']; rfl)
     rw [h0] at this; exact this
    ·next h0 =>
     obtain rfl : ad = ⟨b, β + off, none⟩ := ha.resolve_right (by omega)
     split at e
     ·next vs opn hget =>
      split at e
      ·next hc =>
       obtain ⟨hc, hone⟩ := hc
       simp at e; obtain ⟨rfl, rfl⟩ := e
       have hmn : min n l * sz ≤ l * sz := Nat.mul_le_mul_right _ (Nat.min_le_right _ _)
       have hmn2 : min n l * sz ≤ n * sz := Nat.mul_le_mul_right _ (Nat.min_le_left _ _)
       obtain ⟨w', hst, H'⟩ := Inv.stores (P := P) (opn := opn) hi (cs.take (min n l * sz)) cs'.toList vs off 0 h w H hget (by rw [List.length_take, hlen]; omega) R (fun u hu => List.all_eq_true.1 hone u (List.mem_of_mem_take hu))
       exact ⟨ι, w', .value _, Emb.le.refl _, hex2 w' hst, by simpa using H', .int _ _⟩
      ·simp at e
     ·simp at e
  ·simp at e
 ·simp at e
theorem max2_sim {isMax : Bool} {u v : CVal} {u' v' : Value} (hu : VR ι u u') (hv : VR ι v v') {x : CVal} (e : maxC isMax u v = some x) : ∃ x', (if isMax then Builtin.max2 u' v' else Builtin.min2 u' v').run P w = .ok x' w ∧ VR ι x x' := by
 cases hu <;> cases hv <;> simp [maxC] at e
 obtain ⟨rfl, rfl⟩ := e
 cases isMax
 ·exact ⟨_, by simp only [Bool.false_eq_true, if_false, Builtin.min2]; rfl, by first | exact .int _ _ | (simp; exact .int _ _)⟩
 ·exact ⟨_, by simp only [if_true, Builtin.max2]; rfl, by first | exact .int _ _ | (simp; exact .int _ _)⟩
theorem fold_sim {isMax : Bool} : ∀ {us : List CVal} {us' : List Value} {u : CVal} {u' : Value}, VR ι u u' → VRs ι us us' → ∀ x, foldC isMax u us = some x → ∃ x', (us'.foldlM (fun p q => if isMax then Builtin.max2 p q else Builtin.min2 p q) u').run P w = .ok x' w ∧ VR ι x x'
 | [], _, u, u', hu, .nil, x, e => by simp [foldC] at e; subst e; exact ⟨u', rfl, hu⟩
 | v :: us, _, u, u', hu, .cons _ _ v' us' h1 h2, x, e => by
  simp only [foldC] at e
  split at e
  ·next y hy =>
   obtain ⟨y', g1, g2⟩ := max2_sim (P := P) (w := w) hu h1 hy
   obtain ⟨x', g3, g4⟩ := fold_sim g2 h2 x e
   refine ⟨x', ?_, g4⟩
   simp only [List.foldlM_cons, Sem.run_bind, g1, Result.andThen]
   exact g3
  ·simp at e
theorem sim_maxmin (H : Inv K ι h w) {isMax : Bool} {X : Operand} {Xs : List Operand} {x : CX} {xs : List CX} (hx : VR ι (x.ev a) (A.eval X)) (hxs : VRs ι (xs.map (·.ev a)) (Xs.map A.eval)) {ats : Array TypeId} {args : Array Operand} (hargs : args.toList = X :: Xs)
  {o : Oper} (ho : o.op = .call { callee := .builtin (if isMax then .max else .min), args := args, argTypes := ats }) {r : CRes} {h' : Heap} (e : cop (.maxmin isMax x xs) a h = some (r, h')) : OutQ P ι h r h' (execOp A.eval o) w := by
 simp only [cop] at e
 split at e
 ·next v hv =>
  simp at e; obtain ⟨rfl, rfl⟩ := e
  obtain ⟨v', h1, h2⟩ := fold_sim (P := P) (w := w) hx hxs v hv
  refine out_val H (v' := v') ?_ h2
  have hl : (args.map A.eval).toList = A.eval X :: Xs.map A.eval := by simp [hargs]
  cases isMax
  ·simp only [Bool.false_eq_true, if_false] at h1 ho
   simp only [execOp, ho, resolve, invoke, builtin, Builtin.min_, Sem.run_bind, Sem.run_pure, Result.andThen, hl, h1]
  ·simp only [if_true] at h1 ho
   simp only [execOp, ho, resolve, invoke, builtin, Builtin.max_, Sem.run_bind, Sem.run_pure, Result.andThen, hl, h1]
 ·simp at e
theorem sim_call (H : Inv K ι h w) {F : Operand} {Xs : Array Operand} {f : CX} {xs : List CX} (hf : VR ι (f.ev a) (A.eval F)) (hxs : VRs ι (xs.map (·.ev a)) (Xs.toList.map A.eval)) {ats : Array TypeId}
  {o : Oper} (ho : o.op = .call { callee := .value F, args := Xs, argTypes := ats }) {r : CRes} {h' : Heap} (e : cop (.call f xs) a h = some (r, h')) (hbody : ∀ g args, r = .enter g args → ∃ fn, P.funcs[g]? = some fn ∧ fn.body.isSome = true ∧ (fn.name == "runtime.NumGoroutine") = false) : Out P K ι r h' (execOp A.eval o) w := by
 simp only [cop] at e
 split at e
 ·next g first cap hev =>
  simp only [Option.some.injEq, Prod.mk.injEq] at e; obtain ⟨rfl, rfl⟩ := e
  obtain ⟨fn, h1, h2, h3⟩ := hbody g _ rfl
  rw [hev] at hf
  generalize hF : A.eval F = F' at hf
  cases hf with
  | func _ _ _ first' cap' R1 R2 =>
   refine ⟨ι, w, .enter g (first' ++ Xs.map A.eval ++ cap'), Emb.le.refl _, ?_, H, rfl, ?_⟩
   ·have hb : fn.body.isNone = false := by cases hq : fn.body <;> simp [hq] at h2 ⊢
    have h3' : fn.name ≠ "runtime.NumGoroutine" := by simpa using h3
    simp only [execOp, ho, resolve, hF, Deferred.ofValue, Sem.run_bind, Sem.run_pure, Result.andThen, invoke]
    have hb2 : fn.body ≠ none := by intro hq; rw [hq] at hb; simp at hb
    simp [callFunc, h1, h3', hb2]
   ·rw [Array.toList_append, Array.toList_append, Array.toList_map]
    exact (R1.append hxs).append R2
 ·next i hev =>
  split at e
  ·next st pend fn k np tmps d hg =>
   split at e
   ·next hl =>
    simp only [Option.some.injEq, Prod.mk.injEq] at e; obtain ⟨rfl, rfl⟩ := e
    rw [hev] at hf
    generalize hF : A.eval F = F' at hf
    cases hf with
    | yield _ b β ex hi =>
    obtain ⟨b', e', r, bd, ed, h1, h2, h3, h4, h5, h6, h7, h8, h9, h10⟩ := H.obj i _ hg
    rw [hi] at h1; simp only [Option.some.injEq, Prod.mk.injEq] at h1; obtain ⟨rfl, rfl, rfl⟩ := h1
    have hsz : (Xs.map A.eval).size = r.params.size := by
     have := hxs.length; simp at this; rw [Array.size_map, h5]; omega
    refine ⟨ι, w, _, Emb.le.refl _, ?_, H, b, 0, ex, r, Xs.map A.eval, hi, h2, by rw [Array.toList_map]; exact hxs, hsz, rfl⟩
    have hget : (Instr.getLoop b).run P w = .ok r w := by simp [Instr.getLoop, getObj, h2, Sem.run, Result.andThen]
    simp only [execOp, ho, resolve, hF, Deferred.ofValue, Sem.run_bind, Sem.run_pure, Result.andThen, invoke, Instr.yield, Array.empty_append]
    simp [hget, hsz]
   ·simp at e
  ·simp at e
 ·simp at e
theorem sim_defer (H : Inv K ι h w) {F : Operand} {Xs : Array Operand} {f : CX} {xs : List CX} (hf : VR ι (f.ev a) (A.eval F)) (hxs : VRs ι (xs.map (·.ev a)) (Xs.toList.map A.eval)) {ats : Array TypeId}
  {o : Oper} (ho : o.op = .defer { callee := .value F, args := Xs, argTypes := ats }) {r : CRes} {h' : Heap} (e : cop (.defer f xs) a h = some (r, h')) : Out P K ι r h' (execOp A.eval o) w := by
 simp only [cop] at e
 split at e
 ·next g first cap hev =>
  simp only [Option.some.injEq, Prod.mk.injEq] at e; obtain ⟨rfl, rfl⟩ := e
  rw [hev] at hf
  generalize hF : A.eval F = F' at hf
  cases hf with
  | func _ _ _ first' cap' R1 R2 =>
   refine ⟨ι, w, .defer { target := .fn (.func g) cap', args := first' ++ Xs.map A.eval }, Emb.le.refl _, ?_, H, cap', rfl, ?_⟩
   ·simp only [execOp, ho, resolve, hF, Deferred.ofValue, Sem.run_bind, Sem.run_pure, Result.andThen]
   ·rw [Array.toList_append, Array.toList_append, Array.toList_map]
    exact (R1.append hxs).append R2
 ·simp at e
theorem sim_rangeStr (H : Inv K ι h w) {t : TypeId} (ht : P.underlying t = some .string) {X : Operand} {x : CX} (hx : VR ι (x.ev a) (A.eval X)) {o : Oper} (ho : o.op = .range t X)
  {r : CRes} {h' : Heap} (e : cop (.rangeStr x) a h = some (r, h')) : Out P K ι r h' (execOp A.eval o) w := by
 simp only [cop] at e
 split at e
 ·next s hev =>
  simp at e; obtain ⟨rfl, rfl⟩ := e
  rw [hev] at hx
  generalize hX : A.eval X = X' at hx
  cases hx with
  | str s' =>
   have hle := ι.le_put h.next (w.heap.size, 0, 0) (H.fresh _ (Nat.le_refl _)).1
   refine ⟨ι.put h.next (w.heap.size, 0, 0), { w with heap := w.heap.push (.stringIter s' 0) }, .value (.pointer (some ⟨w.heap.size, 0, none⟩)), hle, ?_, ?_, .ptr _ 0 w.heap.size 0 0 (Emb.put_same _ _ _)⟩
   ·simp only [execOp, ho, hX, Instr.range, Sem.run_bind, run_underlying ht, Result.andThen, Sem.run_pure, newObj, Sem.run]
   ·refine H.new (n := w.drawn) (.iter s'.data.toList 0) (.stringIter s' 0) 0 ⟨w.heap.size, 0, s', Emb.put_same _ _ _, by simp, rfl, fun hk => ?_⟩
    have := H.hF _ hk; have := H.keep.size; omega
 ·simp at e
theorem sim_nextStr (H : Inv K ι h w) {X : Operand} {x : CX} (hx : VR ι (x.ev a) (A.eval X)) {o : Oper} (ho : o.op = .next X true)
  {r : CRes} {h' : Heap} (e : cop (.nextStr x) a h = some (r, h')) : Out P K ι r h' (execOp A.eval o) w := by
 simp only [cop] at e
 split at e
 ·next i hev =>
  rw [hev] at hx
  split at e
  ·next s pos hget =>
   obtain ⟨b, ex, s', h1, h2, h3, h4⟩ := H.obj i _ hget
   generalize hX : A.eval X = X' at hx
   cases hx with
   | ptr _ _ b' β ex' hi =>
    rw [hi] at h1; simp at h1; obtain ⟨rfl, rfl, rfl⟩ := h1
    have hlt := (Array.getElem?_eq_some_iff.1 h2).1
    have hsz : s.length = s'.size := by rw [← h3, Array.length_toList]; rfl
    have hs' : (⟨s.toArray⟩ : ByteArray) = s' := by rw [← h3]
    split at e
    ·next hp =>
     simp only [Option.some.injEq, Prod.mk.injEq] at e; obtain ⟨rfl, rfl⟩ := e
     rw [hs']
     refine ⟨ι, { w with heap := w.heap.setIfInBounds b' (.stringIter s' (pos + (Utf8.decode s' pos).2)) }, .value (.tuple #[.bool true, .int .i64 pos, .int .i32 (Utf8.decode s' pos).1]), Emb.le.refl _, ?_, ?_, .tuple _ _ (.cons _ _ _ _ (.bool _) (.cons _ _ _ _ (.int _ _) (.cons _ _ _ _ (.int _ _) .nil)))⟩
     ·simp only [execOp, ho, hX, Instr.next, Sem.run_bind, getObj, Sem.run, h2, Result.andThen]
      rw [if_pos (by omega)]
      simp only [Sem.run_bind, setObj, Sem.run, h2, Result.andThen, Sem.run_pure, goInt]
     ·refine H.turn (o' := .iter s (pos + (Utf8.decode s' pos).2)) hget rfl hi _ rfl rfl rfl (by simp) (fun k hk => by simp [Array.getElem?_setIfInBounds_ne (Ne.symm hk)]) ⟨b', ex', s', hi, by simp [hlt], h3, h4⟩
    ·next hp =>
     simp at e; obtain ⟨rfl, rfl⟩ := e
     refine OutQ.out H (out_val H (v' := .tuple #[.bool false]) ?_ (.tuple _ _ (.cons _ _ _ _ (.bool _) .nil)))
     simp only [execOp, ho, hX, Instr.next, Sem.run_bind, getObj, Sem.run, h2, Result.andThen]
     rw [if_neg (by omega)]
     rfl
  ·simp at e
 ·simp at e
theorem sim_clear (H : Inv K ι h w) {ats : Array TypeId} {t el : TypeId} (hat : ats[0]? = some t) (ht : P.underlying t = some (.slice el)) {zv : Value} (hz : (zeroValue el).run P w = .ok zv w) {zero : List CVal} (Rz : VRs ι zero zv.cells.toList) (h1 : zero.all CVal.one = true) {D : Operand} {d : CX} (hd : VR ι (d.ev a) (A.eval D))
  {o : Oper} (ho : o.op = .call { callee := .builtin .clear, args := #[D], argTypes := ats }) {r : CRes} {h' : Heap} (e : cop (.clear zero d) a h = some (r, h')) : Out P K ι r h' (execOp A.eval o) w := by
 simp only [cop] at e
 have hex : (execOp A.eval o).run P w = ((Builtin.clear_ ats o.type #[A.eval D]).run P w).andThen fun v w => .ok (.value v) w := by
  simp [execOp, ho, resolve, invoke, builtin, Result.andThen]
 generalize d.ev a = u at hd e
 generalize hD : A.eval D = D' at hd hex
 cases hd <;> simp at e
 ·obtain ⟨rfl, rfl⟩ := e
  refine OutQ.out H (out_val H (v' := .tuple #[]) ?_ (.tuple _ _ .nil))
  rw [hex]
  simp [Builtin.clear_, hat, run_underlying ht, Result.andThen]
 ·next i off l c b β ex ad hi ha hlc =>
  split at e
  ·next h0 =>
   simp at e; obtain ⟨rfl, rfl⟩ := e
   subst h0
   refine OutQ.out H (out_val H (v' := .tuple #[]) ?_ (.tuple _ _ .nil))
   rw [hex]
   simp [Builtin.clear_, hat, run_underlying ht, Result.andThen]
  ·next h0 =>
   obtain rfl : ad = ⟨b, β + off, none⟩ := ha.resolve_right (by omega)
   split at e
   ·next vs opn hget =>
    split at e
    ·next hc =>
     simp at e; obtain ⟨rfl, rfl⟩ := e
     have R := repC_rel Rz l zv.cells.size rfl
     have hlen : (repC l zero).length = l * zero.length := by
      clear hex hget h0 hc R hlc hD
      induction l with
      | zero => simp [repC]
      | succ l ih => rw [repC, List.length_append, ih, Nat.succ_mul]; omega
     obtain ⟨w', hst, H'⟩ := Inv.stores (P := P) (opn := opn) hi (repC l zero) (Builtin.zeroCells zv.cells l).toList vs off 0 h w H hget (by rw [hlen]; omega) R (fun u hu => List.all_eq_true.1 (repC_all h1 l) u hu)
     refine ⟨ι, w', .value (.tuple #[]), Emb.le.refl _, ?_, by simpa using H', .tuple _ _ .nil⟩
     rw [hex]
     simp [Builtin.clear_, hat, run_underlying ht, Result.andThen, h0, hz, hst]
    ·simp at e
   ·simp at e
def noPtr : TypeDesc → Bool
 | .pointer _ => false
 | _ => true
theorem run_appendN {ats : Array TypeId} {t t2 el : TypeId} {kd : IntKind} {i : TypeInfo} {zv : Value} (h0 : ats[0]? = some t) (h1 : P.underlying t = some (.slice el)) (h2 : ats[1]? = some t2) (h3 : P.underlying t2 = some (.int kd)) (hi : P.info? el = some i) (hz : i.zero = some zv) (hs : zv.cells.size = i.size)
  (hb1 : 0 < i.bytes) (hb2 : i.bytes ≤ 1048576) (hs0 : 0 < i.size) (ty : TypeId) {k : IntKind} {n : Nat} (hn : 0 < n) (hfit : n * i.bytes ≤ 1099511627776) :
  ∃ newCap rest, n ≤ newCap ∧ rest.size = (newCap - n) * i.size ∧ (Builtin.append_ ats ty #[.slice none 0 0, .int k n]).run P w = .ok (.slice (some ⟨w.heap.size, 0, none⟩) n newCap) { w with heap := w.heap.push (.cells (Builtin.zeroCells zv.cells n ++ rest) el), drawn := w.drawn + 1 } := by
 have hsz : ∀ w, (sizeOf el).run P w = .ok i.size w := fun w => by simp [sizeOf, typeInfo, hi]
 have hti : ∀ w, (typeInfo el).run P w = .ok i w := fun w => by simp [typeInfo, hi]
 have hzv : ∀ w, (zeroValue el).run P w = .ok zv w := fun w => by simp [zeroValue, typeInfo, hi, hz]
 have hneed : n ≤ 1099511627776 := Nat.le_trans (Nat.le_mul_of_pos_right _ hb1) hfit
 have hcap : Builtin.nextslicecap (0 + n) 0 * i.bytes ≤ 281474976710656 := by
  have h2 := Nat.mul_le_mul_right i.bytes (nextslicecap_le (n := 0 + n) (c := 0) (by omega))
  rw [Nat.add_mul, Nat.mul_assoc] at h2
  have : 200 * i.bytes ≤ 209715200 := by omega
  have e1 : 2 * ((0 + n) * i.bytes) = 2 * (n * i.bytes) := by rw [Nat.zero_add]
  omega
 have hmax : IntKind.i64.max = 9223372036854775807 := by decide
 have hw : IntKind.i64.wrap (n : Int) = n := IntWalk.i64_in _ (by omega)
 have c0 : ¬ ((n : Int) < 0) := by omega
 have c00 : ¬ ((n : Int) * (i.bytes : Int) > 2 ^ 48) := by
  have : (n : Int) * (i.bytes : Int) = ((n * i.bytes : Nat) : Int) := by simp
  rw [this]; omega
 have c1 : ¬ (((0 + n : Nat) : Int) > IntKind.i64.max ∧ (true = true ∨ i.bytes = 0)) := by rw [hmax]; omega
 have c2 : ¬ Builtin.nextslicecap (0 + n) 0 * i.bytes > 2 ^ 48 := by omega
 have c3 : ¬ (n * i.size = 0) := by
  intro q; rcases Nat.mul_eq_zero.1 q with q | q <;> omega
 refine ⟨(Question.appendCap (0 + n) 0 el).cut (w.tape w.drawn (.appendCap (0 + n) 0 el)), Builtin.zeroCells zv.cells ((Question.appendCap (0 + n) 0 el).cut (w.tape w.drawn (.appendCap (0 + n) 0 el)) - (0 + n)), by simp [Question.cut], by simp [Builtin.zeroCells, hs], ?_⟩
 have hask : ∀ (b : Nat) (w : World), (askRoom b).run P w = .ok () w := fun b w => by
  unfold askRoom
  split <;> simp [mark, Sem.run]
 simp only [Builtin.append_, h0, h2, List.getElem?_toArray, List.getElem?_cons_zero, List.getElem?_cons_succ, Sem.run_bind, run_underlying h1, run_underlying h3, Result.andThen, hsz, Sem.run_pure, Bool.false_eq_true, if_false, if_true, asInt, asIntOf, hw, c0, hti, c00, Int.toNat_natCast, Bool.not_true]
 rw [if_neg (by omega)]
 simp only [Sem.run_bind, hti, Result.andThen]
 rw [if_neg (by simpa using c1)]
 simp only [Sem.run_bind, hti, Result.andThen]
 rw [if_neg c2]
 simp only [Sem.run_bind, choose, Sem.run, Question.forced, Bool.false_eq_true, if_false, Result.andThen, hti, hask, Builtin.firstCells, hzv, Go.newRow, newObj, Sem.run_pure, c3, Nat.zero_add, Array.empty_append]
theorem sim_appendN (H : Inv K ι h w) {ats : Array TypeId} {t t2 el : TypeId} {kd : IntKind} {i : TypeInfo} {zv : Value} (h0 : ats[0]? = some t) (h1 : P.underlying t = some (.slice el)) (h2 : ats[1]? = some t2) (h3 : P.underlying t2 = some (.int kd)) (hi : P.info? el = some i) (hz : i.zero = some zv) (hs : zv.cells.size = i.size)
  (hb1 : 0 < i.bytes) (hb2 : i.bytes ≤ 1048576) (hs0 : 0 < i.size) {zero : List CVal} (hone : zero.all CVal.one = true) (Rz : VRs ι zero zv.cells.toList) {S X : Operand} {s x : CX} (hS : VR ι (s.ev a) (A.eval S)) (hX : VR ι (x.ev a) (A.eval X))
  {o : Oper} (ho : o.op = .call { callee := .builtin .append, args := #[S, X], argTypes := ats }) {r : CRes} {h' : Heap} (e : cop (.appendN i.size i.bytes zero s x) a h = some (r, h')) : Out P K ι r h' (execOp A.eval o) w := by
 simp only [cop] at e
 have hex : (execOp A.eval o).run P w = ((Builtin.append_ ats o.type #[A.eval S, A.eval X]).run P w).andThen fun v w => .ok (.value v) w := by
  simp [execOp, ho, resolve, invoke, builtin, Result.andThen]
 split at e
 ·next n hsn hxn =>
  split at e
  ·next hc =>
   obtain ⟨hn0, hfit⟩ := hc
   simp only [Option.some.injEq, Prod.mk.injEq] at e; obtain ⟨rfl, rfl⟩ := e
   obtain ⟨k', hv⟩ := asNat_some hX hxn
   have hSe : A.eval S = .slice none 0 0 := by rw [hsn] at hS; generalize A.eval S = y at hS; cases hS; rfl
   obtain ⟨newCap, rest, hc, hrest, hrun⟩ := run_appendN (w := w) (k := k') h0 h1 h2 h3 hi hz hs hb1 hb2 hs0 o.type hn0 hfit
   have R : VRs ι (repC n zero) (Builtin.zeroCells zv.cells n).toList := repC_rel Rz n zv.cells.size rfl
   refine ⟨_, _, .value _, ι.le_put h.next _ (H.fresh _ (Nat.le_refl _)).1, by rw [hex, hSe, hv, hrun]; rfl, H.grown (ex := newCap - n) R (repC_all hone n) hrest, ?_⟩
   have := VR.slice (ι := ι.put h.next (w.heap.size, 0, newCap - n)) h.next 0 n n w.heap.size 0 (newCap - n) ⟨w.heap.size, 0, none⟩ (Emb.put_same _ _ _) (.inl rfl) (Nat.le_refl _)
   rw [show n + (newCap - n) = newCap from by omega] at this
   show VR _ _ _
   simpa using this
  ·simp at e
 ·simp at e
def methOf (P : Program) (name : String) (t : TypeId) : Option FuncId := match P.info? t with
 | some i => match i.methods.find? (·.name == name) with
  | some m => match m.path.toList, m.func, P.underlying t with
   | [], some (f, true), some (.pointer _) => some f
   | [], some (f, false), some d => if noPtr d then some f else none
   | _, _, _ => none
  | none => none
 | none => none
theorem methOf_run {name : String} {t : TypeId} {f : FuncId} (h : methOf P name t = some f) (v : Value) (n : Nat) : (method (n + 1) t v name).run P w = .ok (f, v) w := by
 unfold methOf at h
 split at h
 ·next i hi =>
  split at h
  ·next m hm =>
   split at h
   ·next g d hp hf hu =>
    simp only [Option.some.injEq] at h; subst h
    simp [method, typeInfo, hi, hm, hp, hf, follow, receiverAt, run_underlying hu, Place.get, Result.andThen]
   ·next g d hp hf hu =>
    split at h
    ·next hd =>
     simp only [Option.some.injEq] at h; subst h
     cases d <;> simp [noPtr] at hd <;> simp [method, typeInfo, hi, hm, hp, hf, follow, receiverAt, run_underlying hu, Place.get, Result.andThen]
    ·simp at h
   ·simp at h
  ·simp at h
 ·simp at h
theorem sim_invoke (H : Inv K ι h w) {F : Operand} {Xs : Array Operand} {f : CX} {xs : List CX} {name : String} {ms : List (TypeId × FuncId)} (hms : ∀ t g, (t, g) ∈ ms → methOf P name t = some g) (hf : VR ι (f.ev a) (A.eval F)) (hxs : VRs ι (xs.map (·.ev a)) (Xs.toList.map A.eval)) {ats : Array TypeId}
  {o : Oper} (ho : o.op = .call { callee := .invoke F name, args := Xs, argTypes := ats }) {r : CRes} {h' : Heap} (e : cop (.invoke ms f xs) a h = some (r, h')) (hbody : ∀ g args, r = .enter g args → ∃ fn, P.funcs[g]? = some fn ∧ fn.body.isSome = true ∧ (fn.name == "runtime.NumGoroutine") = false) : Out P K ι r h' (execOp A.eval o) w := by
 simp only [cop] at e
 split at e
 ·next t v hev =>
  split at e
  ·next g hg =>
   simp only [Option.some.injEq, Prod.mk.injEq] at e; obtain ⟨rfl, rfl⟩ := e
   obtain ⟨fn, h1, h2, h3⟩ := hbody g _ rfl
   rw [hev] at hf
   obtain ⟨v', hF, hv⟩ : ∃ v', A.eval F = .iface t v' ∧ VR ι v v' := by generalize A.eval F = y at hf; cases hf; exact ⟨_, rfl, ‹_›⟩
   refine ⟨ι, w, .enter g (#[v'] ++ Xs.map A.eval), Emb.le.refl _, ?_, H, rfl, ?_⟩
   ·have hb : fn.body ≠ none := by intro hq; rw [hq] at h2; simp at h2
    have h3' : fn.name ≠ "runtime.NumGoroutine" := by simpa using h3
    have hm := fun n => methOf_run (w := w) (hms t g (assocF_mem hg)) v' n
    have hd0 : 0 < Made.depth := by decide
    have hd : ∃ n, P.types.size + Made.depth = n + 1 := ⟨P.types.size + Made.depth - 1, by omega⟩
    obtain ⟨n, hd⟩ := hd
    have hrc : (#[Value.iface t v'] ++ Xs.map A.eval)[0]? = some (.iface t v') := by rw [Array.getElem?_append_left (by simp)]; rfl
    have hxt : (#[Value.iface t v'] ++ Xs.map A.eval).extract 1 (#[Value.iface t v'] ++ Xs.map A.eval).size = Xs.map A.eval := by
     apply Array.ext <;> simp
    simp only [execOp, ho, resolve, hF, Sem.run_bind, Sem.run_pure, Result.andThen, invoke, hrc, hxt, callMethod]
    simp [hd, hm, callFunc, h1, h3', hb, Result.andThen]
   ·rw [Array.toList_append, Array.toList_map]
    exact .cons _ _ _ _ hv hxs
  ·simp at e
 ·simp at e
end
def extName (n : String) : Option Ext :=
 if n = "sync/atomic.LoadUint32" then some (.atomicLoad .u32)
 else if n = "sync/atomic.StoreUint32" then some (.atomicStore .u32)
 else if n = "sync/atomic.CompareAndSwapInt32" then some (.atomicCas .i32)
 else if n = "sync/atomic.AddInt32" then some (.atomicAdd .i32)
 else if n = "sync/atomic.LoadInt64" then some (.atomicLoad .i64)
 else if n = "sync/atomic.StoreInt64" then some (.atomicStore .i64)
 else if n = "sync/atomic.AddInt64" then some (.atomicAdd .i64)
 else if n = "internal/race.Disable" ∨ n = "internal/race.Enable" then some .mark0
 else if n = "internal/race.Acquire" ∨ n = "internal/race.ReleaseMerge" then some .mark1
 else none
def extOf (P : Program) (f : FuncId) : Option Ext := match P.funcs[f]? with
 | some fn => match fn.body with
  | some _ => none
  | none => if fn.name == "runtime.NumGoroutine" || (Extern.findNext fn).isSome then none else extName fn.name
 | none => none
def ExtIs (fn : Func) : Ext → Prop
 | .atomicLoad k => Extern.find fn = some (Extern.Atomic.loadT (.int k))
 | .atomicStore _ => Extern.find fn = some Extern.Atomic.storeT
 | .atomicAdd k => Extern.find fn = some (Extern.Atomic.update (Op.intArith .add) k true)
 | .atomicCas k => Extern.find fn = some (Extern.Atomic.casT (.int k))
 | .mark0 => ∃ m, Extern.find fn = some (fun _ => do mark m; pure Extern.Race.none_)
 | .mark1 => ∃ m, Extern.find fn = some (Extern.Race.marked m)
 | .uptr => False
theorem extName_is {fn : Func} {e : Ext} (h : extName fn.name = some e) : ExtIs fn e := by
 obtain ⟨nm, o1, o2, o3, o4, o5, o6, o7⟩ := fn
 simp only [extName] at h
 split at h
 ·next hn => subst hn; cases h; show Extern.find _ = _; kernel_rfl
 split at h
 ·next hn => subst hn; cases h; show Extern.find _ = _; kernel_rfl
 split at h
 ·next hn => subst hn; cases h; show Extern.find _ = _; kernel_rfl
 split at h
 ·next hn => subst hn; cases h; show Extern.find _ = _; kernel_rfl
 split at h
 ·next hn => subst hn; cases h; show Extern.find _ = _; kernel_rfl
 split at h
 ·next hn => subst hn; cases h; show Extern.find _ = _; kernel_rfl
 split at h
 ·next hn => subst hn; cases h; show Extern.find _ = _; kernel_rfl
 split at h
 ·next hn =>
  cases h
  rcases hn with rfl | rfl
  ·exact ⟨.disable, by kernel_rfl⟩
  ·exact ⟨.enable, by kernel_rfl⟩
 split at h
 ·next hn =>
  cases h
  rcases hn with rfl | rfl
  ·exact ⟨.acquire, by kernel_rfl⟩
  ·exact ⟨.releaseMerge, by kernel_rfl⟩
 ·simp at h
structure ExtOk (P : Program) (f : FuncId) (e : Ext) : Prop where
 ok : ∃ fn, P.funcs[f]? = some fn ∧ (fn.name == "runtime.NumGoroutine") = false ∧ fn.body.isNone = true ∧ Extern.findNext fn = none ∧ ExtIs fn e
theorem extOf_ok {P : Program} {f : FuncId} {e : Ext} (h : extOf P f = some e) : ExtOk P f e := by
 unfold extOf at h
 split at h
 ·next fn hf =>
  split at h
  ·simp at h
  ·next hb =>
   split at h
   ·simp at h
   ·next hc =>
    rw [Bool.not_eq_true, Bool.or_eq_false_iff] at hc
    refine ⟨fn, hf, hc.1, by simp [hb], by simpa using hc.2, extName_is h⟩
 ·simp at h
section
variable {P : Program} {K : Ctx} {ι : Emb} {h : Heap} {w : World} {a : List CVal} {A : Act}
theorem Inv.frozen (H : Inv K ι h w) {i o : Nat} {vs : List CVal} {opn : Option Nat} (hi : h.get i = some (.cells vs true opn)) (ho : o < vs.length) {b β e : Nat} (hb : ι i = some (b, β, e)) : w.frozen? ⟨b, β + o, none⟩ = false := by
 obtain ⟨C, el, lo, hi', hC, hR, hop, hwr⟩ := H.cells hi hb
 obtain ⟨hB, hsp⟩ := hwr rfl
 have hfz := (hsp o (by omega)).2
 simp only [World.frozen?, hC]
 simp only [Bool.and_eq_false_iff, decide_eq_false_iff_not]
 omega
theorem ext_run (H : Inv K ι h w) {f : FuncId} {e : Ext} (ok : ExtOk P f e) {vs : List CVal} {vs' : Array Value} (hvs : VRs ι vs vs'.toList) {v : CVal} {h' : Heap} (he : extC h e vs = some (v, h')) :
  ∃ v' w', (callFunc f vs').run P w = .ok (.value v') w' ∧ Inv K ι h' w' ∧ VR ι v v' := by
 obtain ⟨fn, hf, hname, hb, hn, his⟩ := ok
 have e1 : ∀ {x : Value}, vs'.toList = [x] → vs' = #[x] := fun h => by rw [← Array.toArray_toList (xs := vs'), h]
 have e2 : ∀ {x y : Value}, vs'.toList = [x, y] → vs' = #[x, y] := fun h => by rw [← Array.toArray_toList (xs := vs'), h]
 have e3 : ∀ {x y z : Value}, vs'.toList = [x, y, z] → vs' = #[x, y, z] := fun h => by rw [← Array.toArray_toList (xs := vs'), h]
 unfold extC at he
 split at he
 ·next k i o =>
  generalize hV : vs'.toList = L at hvs
  cases hvs with
  | cons _ _ p' _ R1 R2 =>
  cases R2
  cases R1 with
  | ptr _ _ b β ex hi =>
  rw [e1 hV]
  split at he
  ·next cs wr opn hg =>
   split at he
   ·next k' n hc =>
    split at he
    ·next hk =>
     simp only [Option.some.injEq, Prod.mk.injEq] at he
     obtain ⟨rfl, rfl⟩ := he
     subst hk
     obtain ⟨v', hc', hv'⟩ := H.load hg hc hi
     cases hv'
     exact ⟨_, w, run_call_load hf hname hb hn k his hc', H, .int _ _⟩
    ·simp at he
   ·simp at he
  ·simp at he
 ·next k i o k2 n =>
  generalize hV : vs'.toList = L at hvs
  cases hvs with
  | cons _ _ p' _ R1 R2 =>
  cases R2 with
  | cons _ _ q' _ S1 S2 =>
  cases S2
  cases S1
  cases R1 with
  | ptr _ _ b β ex hi =>
  rw [e2 hV]
  split at he
  ·next cs opn hg =>
   split at he
   ·next hk =>
    simp only [Option.some.injEq, Prod.mk.injEq] at he
    obtain ⟨rfl, rfl⟩ := he
    obtain ⟨rfl, ho⟩ := hk
    obtain ⟨u', hc', hu'⟩ := H.load hg (List.getElem?_eq_getElem ho) hi
    obtain ⟨_, H'⟩ := H.store (P := P) hg ho (VR.int k n) rfl hi
    exact ⟨_, _, run_call_store hf hname hb hn his hc' (H.frozen hg ho hi), H', .tuple _ _ .nil⟩
   ·simp at he
  ·simp at he
 ·next k i o k2 d =>
  generalize hV : vs'.toList = L at hvs
  cases hvs with
  | cons _ _ p' _ R1 R2 =>
  cases R2 with
  | cons _ _ q' _ S1 S2 =>
  cases S2
  cases S1
  cases R1 with
  | ptr _ _ b β ex hi =>
  rw [e2 hV]
  split at he
  ·next cs opn hg =>
   split at he
   ·next k' n hc =>
    split at he
    ·next hk =>
     simp only [Option.some.injEq, Prod.mk.injEq] at he
     obtain ⟨rfl, rfl⟩ := he
     obtain ⟨rfl, rfl⟩ := hk
     have ho : o < cs.length := (List.getElem?_eq_some_iff.1 hc).1
     obtain ⟨u', hc', hu'⟩ := H.load hg hc hi
     cases hu'
     obtain ⟨_, H'⟩ := H.store (P := P) hg ho (VR.int k (k.wrap (n + d))) rfl hi
     exact ⟨_, _, run_call_add hf hname hb hn k his hc' (H.frozen hg ho hi) (by simp [Op.intArith]), H', .int _ _⟩
    ·simp at he
   ·simp at he
  ·simp at he
 ·next k i o k2 x k3 y =>
  generalize hV : vs'.toList = L at hvs
  cases hvs with
  | cons _ _ p' _ R1 R2 =>
  cases R2 with
  | cons _ _ q' _ S1 S2 =>
  cases S2 with
  | cons _ _ r' _ T1 T2 =>
  cases T2
  cases T1
  cases S1
  cases R1 with
  | ptr _ _ b β ex hi =>
  rw [e3 hV]
  split at he
  ·next cs opn hg =>
   split at he
   ·next k' n hc =>
    split at he
    ·next hk =>
     obtain ⟨rfl, rfl, rfl⟩ := hk
     have ho : o < cs.length := (List.getElem?_eq_some_iff.1 hc).1
     obtain ⟨u', hc', hu'⟩ := H.load hg hc hi
     cases hu'
     split at he
     ·next hnx =>
      simp only [Option.some.injEq, Prod.mk.injEq] at he
      obtain ⟨rfl, rfl⟩ := he
      subst hnx
      obtain ⟨_, H'⟩ := H.store (P := P) hg ho (VR.int k y) rfl hi
      exact ⟨_, _, run_call_cas_hit hf hname hb hn k his hc' (H.frozen hg ho hi), H', .bool _⟩
     ·next hnx =>
      simp only [Option.some.injEq, Prod.mk.injEq] at he
      obtain ⟨rfl, rfl⟩ := he
      exact ⟨_, _, run_call_cas_miss hf hname hb hn k his hc' (H.frozen hg ho hi) hnx, H, .bool _⟩
    ·simp at he
   ·simp at he
  ·simp at he
 ·simp only [Option.some.injEq, Prod.mk.injEq] at he
  obtain ⟨rfl, rfl⟩ := he
  generalize hV : vs'.toList = L at hvs
  cases hvs
  obtain rfl : vs' = #[] := by rw [← Array.toArray_toList (xs := vs'), hV]
  obtain ⟨m, his⟩ := his
  exact ⟨_, w, run_call_mark0 hf hname hb hn m his w, H, .tuple _ _ .nil⟩
 ·simp only [Option.some.injEq, Prod.mk.injEq] at he
  obtain ⟨rfl, rfl⟩ := he
  generalize hV : vs'.toList = L at hvs
  cases hvs with
  | cons _ _ p' _ R1 R2 =>
  cases R2
  cases R1 with
  | ptr _ _ b β ex hi =>
  rw [e1 hV]
  obtain ⟨m, his⟩ := his
  exact ⟨_, w, run_call_marked hf hname hb hn m his _ w, H, .tuple _ _ .nil⟩
 ·exact his.elim
 ·simp at he
theorem sim_ext (H : Inv K ι h w) {f : FuncId} {e : Ext} (ok : ExtOk P f e) {Xs : Array Operand} {xs : List CX} (hxs : VRs ι (xs.map (·.ev a)) (Xs.toList.map A.eval)) {ats : Array TypeId}
  {o : Oper} (ho : o.op = .call { callee := .value (.func f), args := Xs, argTypes := ats }) {r : CRes} {h' : Heap} (hc : cop (.ext e xs) a h = some (r, h')) : Out P K ι r h' (execOp A.eval o) w := by
 simp only [cop] at hc
 split at hc
 ·next v h₁ he =>
  simp only [Option.some.injEq, Prod.mk.injEq] at hc
  obtain ⟨rfl, rfl⟩ := hc
  obtain ⟨v', w', hrun, H', hv⟩ := ext_run H ok (vs' := Xs.map A.eval) (by rw [Array.toList_map]; exact hxs) he
  refine ⟨ι, w', .value v', Emb.le.refl _, ?_, H', hv⟩
  have ef : A.eval (.func f) = .func (.func f) #[] #[] := rfl
  simp only [execOp, ho, resolve, ef, Deferred.ofValue, Sem.run_bind, Sem.run_pure, Result.andThen, invoke, Array.empty_append, Array.append_empty]
  exact hrun
 ·simp at hc
theorem extC_uptr {h h₁ : Heap} {x v : CVal} (he : extC h .uptr [x] = some (v, h₁)) : ∃ i o cs wr opn, x = .ptr i o ∧ h.get i = some (.cells cs wr opn) ∧ o < cs.length ∧ v = .ptr i o ∧ h₁ = h := by
 cases x <;> simp only [extC, reduceCtorEq] at he
 next i o =>
  split at he
  ·next cs wr opn hg =>
   split at he
   ·next hlt =>
    simp only [Option.some.injEq, Prod.mk.injEq] at he
    exact ⟨i, o, cs, wr, opn, rfl, hg, hlt, he.1.symm, he.2.symm⟩
   ·simp at he
  ·simp at he
theorem sim_uptr (H : Inv K ι h w) {src dst t : TypeId} (hs : P.underlying src = some (.pointer t)) (hd : P.underlying dst = some .unsafePointer) (hsz : (P.info? t).map (fun i => decide (i.size = 0)) = some false)
  {X : Operand} {x : CX} (hx : VR ι (x.ev a) (A.eval X)) {o : Oper} (ho : o.op = .convert src dst X) {r : CRes} {h' : Heap} (e : cop (.ext .uptr [x]) a h = some (r, h')) : Out P K ι r h' (execOp A.eval o) w := by
 simp only [cop, List.map_cons, List.map_nil] at e
 split at e
 ·next v h₁ he =>
  simp only [Option.some.injEq, Prod.mk.injEq] at e
  obtain ⟨rfl, rfl⟩ := e
  obtain ⟨i, off, cs, wr, opn, hev, hg, hlt, rfl, rfl⟩ := extC_uptr he
  rw [hev] at hx
  generalize hX : A.eval X = X' at hx
  cases hx with
  | ptr _ _ b β ex hi =>
  obtain ⟨u', hc', _⟩ := H.load hg (List.getElem?_eq_getElem hlt) hi
  refine ⟨ι, w, .value _, Emb.le.refl _, ?_, H, .ptr i off b β ex hi⟩
  simp [execOp, ho, hX, run_convert_to_unsafe hs hd hsz hc', Result.andThen]
 ·simp at e
end
def compG (glb : Gl) (X : Operand) : Option CX := if globOk glb X then compX X else none
def compGs (glb : Gl) (Xs : List Operand) : Option (List CX) := if Xs.all (globOk glb) then compXs Xs else none
def compGo (glb : Gl) (X : Option Operand) : Option (Option CX) := if (match X with | some Y => globOk glb Y | none => true) then compXo X else none
def partsG (glb : Gl) (place : Nat → Option (Nat × Nat)) (ps : List (Nat × Operand)) : Option (List (Nat × Nat × CX)) := if ps.all (fun p => globOk glb p.2) then partsOk place ps else none
def HasBody (P : Program) (g : FuncId) : Prop := ∃ fn, P.funcs[g]? = some fn ∧ fn.body.isSome = true ∧ (fn.name == "runtime.NumGoroutine") = false
def OpsR (ι : Emb) (a : List CVal) (A : Act) (o : Oper) : Prop := ∀ t, Operand.tmp t ∈ o.op.operands.toList → TmpR ι a A t
def Sound (P : Program) (glb : Gl) (o : Oper) (co : COp) : Prop :=
 ∀ (K : Ctx) (ι : Emb) (h : Heap) (w : World) (a : List CVal) (A : Act), K.glb = glb → Inv K ι h w → OpsR ι a A o → ∀ (r : CRes) (h' : Heap), cop co a h = some (r, h') →
  (∀ g args, r = .enter g args → HasBody P g) → Out P K ι r h' (execOp A.eval o) w
def SoundQ (P : Program) (glb : Gl) (o : Oper) (co : COp) : Prop :=
 ∀ (K : Ctx) (ι : Emb) (h : Heap) (w : World) (a : List CVal) (A : Act), K.glb = glb → Inv K ι h w → OpsR ι a A o → ∀ (r : CRes) (h' : Heap), cop co a h = some (r, h') → OutQ P ι h r h' (execOp A.eval o) w
theorem SoundQ.sound {P : Program} {glb : Gl} {o : Oper} {co : COp} (q : SoundQ P glb o co) : Sound P glb o co := fun K ι h w a A hg H R r h' e _ => (q K ι h w a A hg H R r h' e).out H
section
variable {K : Ctx} {ι : Emb} {h : Heap} {w : World} {a : List CVal} {A : Act} {glb : Gl}
theorem compG_ev (H : Inv K ι h w) (hk : K.glb = glb) {X : Operand} {x : CX} (hx : compG glb X = some x) (R : ∀ t, X = .tmp t → TmpR ι a A t) : VR ι (x.ev a) (A.eval X) := by
 unfold compG at hx
 split at hx
 ·next hg => exact H.ev' hx R (hk ▸ hg)
 ·simp at hx
theorem compGs_ev (H : Inv K ι h w) (hk : K.glb = glb) {Xs : List Operand} {xs : List CX} (hx : compGs glb Xs = some xs) (R : ∀ t, Operand.tmp t ∈ Xs → TmpR ι a A t) : VRs ι (xs.map (·.ev a)) (Xs.map A.eval) := by
 unfold compGs at hx
 split at hx
 ·next hg => exact H.evs hx R (fun X hX => hk ▸ List.all_eq_true.1 hg X hX)
 ·simp at hx
theorem compGo_ev (H : Inv K ι h w) (hk : K.glb = glb) {X : Option Operand} {x : Option CX} (hx : compGo glb X = some x) (R : ∀ t, X = some (.tmp t) → TmpR ι a A t) : OR ι (x.map (·.ev a)) (X.map A.eval) := by
 cases X with
 | none => simp [compGo, compXo] at hx; subst hx; trivial
 | some X =>
  simp only [compGo] at hx
  cases hg : globOk glb X with
  | false => simp [hg] at hx
  | true =>
   simp only [hg, if_true] at hx
   exact H.evo hx R (fun Y hY => by cases hY; exact hk ▸ hg)
theorem partsG_rel (H : Inv K ι h w) (hk : K.glb = glb) {place : Nat → Option (Nat × Nat)} {ps : List (Nat × Operand)} {qs : List (Nat × Nat × CX)} (hx : partsG glb place ps = some qs) (R : ∀ t, Operand.tmp t ∈ ps.map (·.2) → TmpR ι a A t) :
  (qs.map fun p => (p.1, p.2.1, p.2.2.ev a)).length = (ps.map fun p => (p.1, A.eval p.2)).length ∧
  ∀ (j : Nat) (p : Nat × Nat × CVal) (q : Nat × Value), (qs.map fun p => (p.1, p.2.1, p.2.2.ev a))[j]? = some p → (ps.map fun p => (p.1, A.eval p.2))[j]? = some q → place q.1 = some (p.1, p.2.1) ∧ VR ι p.2.2 q.2 := by
 unfold partsG at hx
 split at hx
 ·next hg => exact parts_rel H ps qs hx R (fun p hp => hk ▸ List.all_eq_true.1 hg p hp)
 ·simp at hx
end
section
variable (P : Program)
def tyAgg (t : TypeId) : Option Bool := match P.underlying t with
 | some (.struct _) | some (.array ..) => some true
 | some _ => some false
 | none => none
def tySize (t : TypeId) : Option Nat := (P.info? t).map (·.size)
def tyZero (t : TypeId) : Option (List CVal) := match P.info? t with
 | some i => match i.zero with
  | some zv => match ofV.ofVs depthV zv.cells.toList with
   | some cs => if cs.all CVal.one = true ∧ zv.cells.size = i.size then some cs else none
   | none => none
  | none => none
 | none => none
def tyZeroV (t : TypeId) : Option CVal := match P.info? t with
 | some i => match i.zero with
  | some zv => ofV depthV zv
  | none => none
 | none => none
def tyKey (t : TypeId) : Option KT := match P.underlying t with
 | some .bool => some (.one .bool)
 | some (.int _) => some (.one .int)
 | some .string => some (.one .str)
 | some (.struct fs) => match pksOf fs.toList with
  | some ks => if flatT P t ks then some (.flat ks) else none
  | none => none
 | _ => none
where
 pksOf : List Field → Option (List PK)
  | [] => some []
  | f :: fs => match P.underlying f.type, pksOf fs with
   | some .bool, some ks => some (.bool :: ks)
   | some (.int _), some ks => some (.int :: ks)
   | some .string, some ks => some (.str :: ks)
   | _, _ => none
variable {P}
theorem tyAgg_run {t : TypeId} {b : Bool} (h : tyAgg P t = some b) (w : World) : (isAgg t).run P w = .ok b w := by
 unfold tyAgg at h
 cases hu : P.underlying t with
 | none => simp [hu] at h
 | some d => cases d <;> simp [hu] at h <;> subst h <;> simp [isAgg, run_underlying hu]
theorem tySize_run {t : TypeId} {n : Nat} (h : tySize P t = some n) (w : World) : (sizeOf t).run P w = .ok n w := by
 unfold tySize at h
 cases hi : P.info? t with
 | none => simp [hi] at h
 | some i => simp [hi] at h; subst h; simp [sizeOf, typeInfo, hi]
theorem tyZero_spec {t : TypeId} {cs : List CVal} (h : tyZero P t = some cs) : ∃ i zv, P.info? t = some i ∧ i.zero = some zv ∧ zv.cells.size = i.size ∧ cs.all CVal.one = true ∧ (∀ ι, VRs ι cs zv.cells.toList) ∧ ∀ w, (zeroValue t).run P w = .ok zv w := by
 unfold tyZero at h
 split at h
 ·next i hi =>
  split at h
  ·next zv hz =>
   split at h
   ·next cs' hcs =>
    split at h
    ·next h1 =>
     simp at h; subst h
     exact ⟨i, zv, hi, hz, h1.2, h1.1, fun ι => ofVs_rel (fun v c e => ofV_rel _ _ _ e) _ _ hcs, fun w => by simp [zeroValue, typeInfo, hi, hz]⟩
    ·simp at h
   ·simp at h
  ·simp at h
 ·simp at h
theorem tyZeroV_spec {t : TypeId} {c : CVal} (h : tyZeroV P t = some c) : ∃ zv, (∀ ι, VR ι c zv) ∧ ∀ w, (zeroValue t).run P w = .ok zv w := by
 unfold tyZeroV at h
 split at h
 ·next i hi =>
  split at h
  ·next zv hz => exact ⟨zv, fun ι => ofV_rel _ _ _ h, fun w => by simp [zeroValue, typeInfo, hi, hz]⟩
  ·simp at h
 ·simp at h
theorem tyKey_fits {t : TypeId} {kt : KT} (h : tyKey P t = some kt) : kt.fits P t = true := by
 unfold tyKey at h
 split at h
 ·next hu => simp at h; subst h; simp [KT.fits, hu, PK.fits]
 ·next hu => simp at h; subst h; simp [KT.fits, hu, PK.fits]
 ·next hu => simp at h; subst h; simp [KT.fits, hu, PK.fits]
 ·next fs hu =>
  split at h
  ·split at h
   ·next hf => simp at h; subst h; exact hf
   ·simp at h
  ·simp at h
 ·simp at h
end
def compBin (P : Program) (glb : Gl) (op : BinOp) (t : TypeId) (X Y : Operand) : Option COp :=
 match compG glb X, compG glb Y, P.underlying t with
 | some x, some y, some d =>
  match d with
  | .int _ | .string => some (.bin op x y)
  | .struct _ =>
   if op = .eql ∨ op = .neq then
    match tyKey P t with
    | some (.flat ks) => if P.eqGuardType P.depth t then none else some (.eqS ks (op == .neq) x y)
    | _ => none
   else none
  | _ =>
   if op = .eql ∨ op = .neq then
    match (match d with | .bool => some TK.bool | .pointer _ => some .ptr | .slice _ => some .slice | .map .. => some .map | .func .. => some .func | .interface _ => some .iface | _ => none : Option TK) with
    | some tk => if tk = .iface ∧ (isConstX X || isConstX Y) = false then none else some (.eq tk (op == .neq) x y)
    | none => none
   else none
 | _, _, _ => none
theorem compBin_sound {P : Program} {glb : Gl} {op : BinOp} {t t' : TypeId} {X Y : Operand} {co : COp} (h : compBin P glb op t X Y = some co) {o : Oper} (ho : o.op = .binOp op t X Y t') : SoundQ P glb o co := by
 intro K ι hp w a A hk H R r h' e
 unfold compBin at h
 split at h
 ·next x y d hx hy hd =>
  have hX := compG_ev H hk hx (fun t e => R t (by simp [ho, Op.operands, e]))
  have hY := compG_ev H hk hy (fun t e => R t (by simp [ho, Op.operands, e]))
  have hop : (op = .eql ∨ op = .neq) → op = (if (op == .neq) = true then .neq else .eql) := by rintro (rfl | rfl) <;> rfl
  split at h
  ·simp at h; subst h; exact sim_bin H hX hY ho e
  ·simp at h; subst h; exact sim_bin H hX hY ho e
  ·next fs =>
   split at h
   ·next hq =>
    split at h
    ·next ks hks =>
     split at h
     ·simp at h
     ·next hg =>
      simp at h; subst h
      have hf := tyKey_fits hks
      exact sim_eqS H (neg := (op == .neq)) hf (by simpa using hg) hX hY (by rw [← hop hq]; exact ho) e
    ·simp at h
   ·simp at h
  ·split at h
   ·next hq =>
    split at h
    ·next tk htk =>
     split at h
     ·simp at h
     ·next hc =>
      simp at h; subst h
      refine sim_eq H (neg := (op == .neq)) (tk := tk) hd ?_ (fun hi => ?_) hX hY (by rw [← hop hq]; exact ho) e
      ·cases d <;> simp at htk <;> subst htk <;> rfl
      ·cases hb : (isConstX X || isConstX Y) with
       | true => rfl
       | false => exact absurd ⟨hi, hb⟩ hc
    ·simp at h
   ·simp at h
 ·simp at h
theorem compBin_isA {P : Program} {glb : Gl} {op : BinOp} {t : TypeId} {X Y : Operand} {co : COp} (h : compBin P glb op t X Y = some co) : isA co = false := by
 unfold compBin at h
 repeat' (first | (split at h) | (simp at h; subst h; rfl) | (simp at h))
 all_goals first | (simp at h; subst h; rfl) | simp at h
def compConv (P : Program) (glb : Gl) (s d : TypeId) (X : Operand) : Option COp :=
 match compG glb X, P.underlying s, P.underlying d with
 | some x, some (.int _), some (.int k) => some (.conv k x)
 | some x, some .string, some (.slice e) => match P.underlying e with
  | some (.int .u8) => some (.bytesOf x)
  | _ => none
 | some x, some (.slice e), some .string => match P.underlying e with
  | some (.int .u8) => some (.strOf x)
  | _ => none
 | some x, some (.slice e), some (.slice _) => match P.underlying e with
  | some (.int .u8) => if s = d then some (.markB x) else none
  | _ => none
 | some x, some (.pointer t), some .unsafePointer => if (P.info? t).map (fun i => decide (i.size = 0)) = some false then some (.ext .uptr [x]) else none
 | _, _, _ => none
def quietC : COp → Bool
 | .move _ | .pick .. | .build .. | .load .. | .nilCheck _ | .bin .. | .eq .. | .eqS .. | .un .. | .conv .. | .strOf _ | .iface .. | .func .. | .sliceStr .. | .slice .. | .sliceArr .. | .fieldAddr .. | .part .. | .indexAddr .. | .indexAddrArr .. | .indexArr .. | .indexStr .. | .lookup .. | .extract .. | .len .. | .maxmin .. | .assert .. => true
 | _ => false
def SoundA (P : Program) (glb : Gl) (o : Oper) (co : COp) : Prop :=
 ∀ (K : Ctx) (ι : Emb) (h : Heap) (w : World) (a : List CVal) (A : Act), K.glb = glb → Inv K ι h w → OpsR ι a A o → ∀ (id : Nat) (v : CVal) (obj : CObj), allocC co a id = some (v, obj) → AOut P K ι id v obj (execOp A.eval o) w
structure Good (P : Program) (glb : Gl) (o : Oper) (co : COp) : Prop where
 sound : Sound P glb o co
 quiet : quietC co = true → SoundQ P glb o co
 alloc : isA co = true → SoundA P glb o co
theorem SoundQ.good {P : Program} {glb : Gl} {o : Oper} {co : COp} (q : SoundQ P glb o co) (h2 : isA co = false := by rfl) : Good P glb o co := ⟨q.sound, fun _ => q, fun e => by rw [h2] at e; simp at e⟩
theorem Sound.good {P : Program} {glb : Gl} {o : Oper} {co : COp} (q : Sound P glb o co) (h : quietC co = false) (h2 : isA co = false := by rfl) : Good P glb o co := ⟨q, fun e => by rw [h] at e; simp at e, fun e => by rw [h2] at e; simp at e⟩
theorem SoundA.good {P : Program} {glb : Gl} {o : Oper} {co : COp} (q : SoundA P glb o co) (h : isA co = true := by rfl) : Good P glb o co := by
 refine ⟨fun K ι hp w a A hk H R r h' e _ => ?_, fun e => ?_, fun _ => q⟩
 ·obtain ⟨v, obj, h1, rfl, rfl⟩ := cop_alloc h e
  exact (q K ι hp w a A hk H R _ _ _ h1).out H
 ·cases co <;> simp [isA, quietC] at h e
theorem compConv_good {P : Program} {glb : Gl} {s d : TypeId} {X : Operand} {co : COp} (h : compConv P glb s d X = some co) {o : Oper} (ho : o.op = .convert s d X) : Good P glb o co := by
 unfold compConv at h
 split at h
 ·next x k' k hx hs hd =>
  simp at h; subst h
  exact SoundQ.good fun K ι hp w a A hk H R r h' e => sim_conv H hs hd (compG_ev H hk hx (fun t e => R t (by simp [ho, Op.operands, e]))) ho e
 ·next x e hx hs hd =>
  split at h
  ·next he =>
   simp at h; subst h
   exact Sound.good (fun K ι hp w a A hk H R r h' e _ => sim_bytesOf H hs hd he (compG_ev H hk hx (fun t e => R t (by simp [ho, Op.operands, e]))) ho e) rfl
  ·simp at h
 ·next x e hx hs hd =>
  split at h
  ·next he =>
   simp at h; subst h
   exact SoundQ.good fun K ι hp w a A hk H R r h' e => sim_strOf H hs hd he (compG_ev H hk hx (fun t e => R t (by simp [ho, Op.operands, e]))) ho e
  ·simp at h
 ·next x e _ hx hs hd =>
  split at h
  ·next he =>
   split at h
   ·next hsd =>
    subst hsd
    simp at h; subst h
    exact Sound.good (fun K ι hp w a A hk H R r h' e _ => sim_markB H hs he (compG_ev H hk hx (fun t e => R t (by simp [ho, Op.operands, e]))) ho e) rfl
   ·simp at h
  ·simp at h
 ·next x t hx hs hd =>
  split at h
  ·next hz =>
   simp at h; subst h
   exact Sound.good (fun K ι hp w a A hk H R r h' e _ => sim_uptr H hs hd hz (compG_ev H hk hx (fun t e => R t (by simp [ho, Op.operands, e]))) ho e) rfl
  ·simp at h
 ·simp at h
def compBuild (P : Program) (glb : Gl) (t : TypeId) (parts : Array (Nat × Operand)) : Option COp :=
 match tyZero P t with
 | some zero => match P.underlying t with
  | some (.struct fields) => match fields.toList.mapM (fun f => (P.info? f.type).map fun i => (f.offset, i.size)) with
   | some places => (partsG glb (fun i => places.toArray[i]?) parts.toList).map (.build zero)
   | none => none
  | some (.array _ e) => match tySize P e with
   | some sz => (partsG glb (fun i => some (i * sz, sz)) parts.toList).map (.build zero)
   | none => none
  | _ => none
 | none => none
theorem built_run {P : Program} {t : TypeId} {w : World} (ps : Array (Nat × Value)) (r : Array Value) (h : P.built t ps.toList = some r) : (Instr.build t ps).run P w = .ok (.agg r) w := run_build w t ps r h
theorem compBuild_good {P : Program} {glb : Gl} {t : TypeId} {parts : Array (Nat × Operand)} {co : COp} (h : compBuild P glb t parts = some co) {o : Oper} (ho : o.op = .build t parts) : Good P glb o co := by
 have hops : ∀ t', Operand.tmp t' ∈ parts.toList.map (·.2) → Operand.tmp t' ∈ o.op.operands.toList := by
  intro t' ht; rw [ho]; simpa [Op.operands] using ht
 unfold compBuild at h
 split at h
 ·next zero hz =>
  obtain ⟨i, zv, hi, hzv, hsz, h1, R0, hrun⟩ := tyZero_spec hz
  split at h
  ·next fields hu =>
   split at h
   ·next places hpl =>
    obtain ⟨qs, hqs, rfl⟩ := Option.map_eq_some_iff.1 h
    refine SoundQ.good fun K ι hp w a A hk H R r h' e => ?_
    have hp := partsG_rel H hk hqs (fun t' ht => R t' (hops t' ht))
    refine sim_build (place := fun i => places.toArray[i]?) H (hrun w) (R0 ι) hp (fun ps r hf => built_run ps r ?_) ho e
    simp only [Program.built, hi, hu, hzv, hpl]
    exact hf
   ·simp at h
  ·next n el hu =>
   split at h
   ·next sz hsz' =>
    obtain ⟨qs, hqs, rfl⟩ := Option.map_eq_some_iff.1 h
    refine SoundQ.good fun K ι hp w a A hk H R r h' e => ?_
    have hp := partsG_rel H hk hqs (fun t' ht => R t' (hops t' ht))
    refine sim_build (place := fun i => some (i * sz, sz)) H (hrun w) (R0 ι) hp (fun ps r hf => built_run ps r ?_) ho e
    unfold tySize at hsz'
    cases hie : P.info? el with
    | none => simp [hie] at hsz'
    | some ie =>
     simp [hie] at hsz'; subst hsz'
     simp only [Program.built, hi, hu, hzv, hie]
     exact hf
   ·simp at h
  ·simp at h
 ·simp at h
def compBuiltin (P : Program) (glb : Gl) (b : Builtin) (args : Array Operand) (ats : Array TypeId) : Option COp :=
 match b, args.toList, ats.toList with
 | .len, [X], [t] => match compG glb X, P.underlying t with
  | some x, some .string => some (.len .str x)
  | some x, some (.slice _) => some (.len .slice x)
  | some x, some (.map ..) => some (.len .map x)
  | _, some (.array n _) => some (.move (.c (.int .i64 n)))
  | _, _ => none
 | .append, [S, X], [t, t2] => match compG glb S, compG glb X, P.underlying t, P.underlying t2 with
  | some s, some x, some (.slice el), some d2 => match P.info? el, (match d2 with | .int _ => true | _ => false) with
   | some i, false => match i.zero with
    | some zv => if zv.cells.size = i.size ∧ 0 < i.bytes ∧ i.bytes ≤ 1048576 then some (.append i.size i.bytes s x) else none
    | none => none
   | some i, true => (match tyZero P el, i.zero with
    | some zero, some zv => if 0 < i.bytes ∧ i.bytes ≤ 1048576 ∧ 0 < i.size ∧ zv.cells.size = i.size then some (.appendN i.size i.bytes zero s x) else none
    | _, _ => none)
   | _, _ => none
  | _, _, _, _ => none
 | .copy, [D, S], t :: _ => match compG glb D, compG glb S, P.underlying t with
  | some d, some s, some (.slice el) => (tySize P el).map fun sz => .copy sz d s
  | _, _, _ => none
 | .delete, [M, Y], t :: _ => match compG glb M, compG glb Y, P.underlying t with
  | some m, some y, some (.map kt _) => (tyKey P kt).map fun k => .delete k m y
  | _, _, _ => none
 | .clear, [D], t :: _ => match compG glb D, P.underlying t with
  | some d, some (.slice el) => (tyZero P el).map fun z => .clear z d
  | _, _ => none
 | .max, X :: Xs, _ => match compG glb X, compGs glb Xs with
  | some x, some xs => some (.maxmin true x xs)
  | _, _ => none
 | .min, X :: Xs, _ => match compG glb X, compGs glb Xs with
  | some x, some xs => some (.maxmin false x xs)
  | _, _ => none
 | _, _, _ => none
theorem compBuiltin_good {P : Program} {glb : Gl} {b : Builtin} {args : Array Operand} {ats : Array TypeId} {co : COp} (h : compBuiltin P glb b args ats = some co) {o : Oper} (ho : o.op = .call { callee := .builtin b, args, argTypes := ats }) : Good P glb o co := by
 have hops : ∀ t', Operand.tmp t' ∈ args.toList → Operand.tmp t' ∈ o.op.operands.toList := by
  intro t' ht; rw [ho]; simpa [Op.operands, Call.operands] using ht
 unfold compBuiltin at h
 split at h
 ·next X t hargs hats =>
  split at h
  ·next x hx hu =>
   simp at h; subst h
   exact SoundQ.good fun K ι hp w a A hk H R r h' e => sim_len H (d := .string) hu rfl (compG_ev H hk hx (fun t e => R t (hops t (by rw [hargs, e]; simp)))) ho hargs hats e
  ·next x el hx hu =>
   simp at h; subst h
   exact SoundQ.good fun K ι hp w a A hk H R r h' e => sim_len H (d := .slice el) hu rfl (compG_ev H hk hx (fun t e => R t (hops t (by rw [hargs, e]; simp)))) ho hargs hats e
  ·next x kt el hx hu =>
   simp at h; subst h
   exact SoundQ.good fun K ι hp w a A hk H R r h' e => sim_len H (d := .map kt el) hu rfl (compG_ev H hk hx (fun t e => R t (hops t (by rw [hargs, e]; simp)))) ho hargs hats e
  ·next _ n el hu =>
   simp at h; subst h
   exact SoundQ.good fun K ι hp w a A hk H R r h' e => sim_lenArr H hu ho hargs hats e
  ·simp at h
 ·next S X t t2 hargs hats =>
  split at h
  ·next s x el d2 hs hx hu hu2 =>
   split at h
   ·next i hi hd2 =>
    split at h
    ·next zv hz =>
     split at h
     ·next hb =>
      simp at h; subst h
      obtain rfl : args = #[S, X] := by cases args; simp_all
      refine Sound.good (fun K ι hp w a A hk H R r h' e _ => ?_) rfl
      refine sim_append (ats := ats) (el := el) (i := i) (zv := zv) H ⟨⟨t, by rw [← Array.getElem?_toList, hats]; rfl, hu⟩, ⟨t2, d2, by rw [← Array.getElem?_toList, hats]; rfl, hu2, hd2⟩, hi, hz, hb.1, hb.2⟩ (compG_ev H hk hs (fun t e => R t (hops t (by simp [e])))) (compG_ev H hk hx (fun t e => R t (hops t (by simp [e])))) ho e
     ·simp at h
    ·simp at h
   ·next i hi hd2 =>
    split at h
    ·next zero zv hzc hz =>
     split at h
     ·next hb =>
      simp only [Option.some.injEq] at h; subst h
      obtain rfl : args = #[S, X] := by cases args; simp_all
      refine Sound.good (fun K ι hp w a A hk H R r h' e _ => ?_) rfl
      obtain ⟨i', zv', hi', hz', hs', h1', Rz, _⟩ := tyZero_spec hzc
      rw [hi] at hi'; simp only [Option.some.injEq] at hi'; subst hi'
      rw [hz] at hz'; simp only [Option.some.injEq] at hz'; subst hz'
      obtain ⟨kd, rfl⟩ : ∃ kd, d2 = .int kd := by cases d2 <;> simp at hd2; exact ⟨_, rfl⟩
      exact sim_appendN (ats := ats) (el := el) H (by rw [← Array.getElem?_toList, hats]; rfl) hu (by rw [← Array.getElem?_toList, hats]; rfl) hu2 hi hz hs' hb.1 hb.2.1 hb.2.2.1 h1' (Rz _) (compG_ev H hk hs (fun t e => R t (hops t (by simp [e])))) (compG_ev H hk hx (fun t e => R t (hops t (by simp [e])))) ho e
     ·simp at h
    ·simp at h
   ·simp at h
  ·simp at h
 ·next D S t ts hargs hats =>
  split at h
  ·next d s el hd hs hu =>
   obtain ⟨sz, hsz, rfl⟩ := Option.map_eq_some_iff.1 h
   obtain rfl : args = #[D, S] := by cases args; simp_all
   refine Sound.good (fun K ι hp w a A hk H R r h' e _ => ?_) rfl
   exact sim_copy H (by rw [← Array.getElem?_toList, hats]; rfl) hu (tySize_run hsz w) (compG_ev H hk hd (fun t e => R t (hops t (by simp [e])))) (compG_ev H hk hs (fun t e => R t (hops t (by simp [e])))) ho e
  ·simp at h
 ·next M Y t ts hargs hats =>
  split at h
  ·next m y kt el hm hy hu =>
   obtain ⟨kc, hkc, rfl⟩ := Option.map_eq_some_iff.1 h
   obtain rfl : args = #[M, Y] := by cases args; simp_all
   refine Sound.good (fun K ι hp w a A hk H R r h' e _ => ?_) rfl
   exact sim_delete H hu (tyKey_fits hkc) (compG_ev H hk hm (fun t e => R t (hops t (by simp [e])))) (compG_ev H hk hy (fun t e => R t (hops t (by simp [e])))) (by rw [← Array.getElem?_toList, hats]; rfl) ho e
  ·simp at h
 ·next D t ts hargs hats =>
  split at h
  ·next d el hd hu =>
   obtain ⟨zero, hz, rfl⟩ := Option.map_eq_some_iff.1 h
   obtain ⟨i, zv, hi, hzv, hsz, h1, R0, hrun⟩ := tyZero_spec hz
   obtain rfl : args = #[D] := by cases args; simp_all
   refine Sound.good (fun K ι hp w a A hk H R r h' e _ => ?_) rfl
   exact sim_clear H (by rw [← Array.getElem?_toList, hats]; rfl) hu (hrun w) (R0 ι) h1 (compG_ev H hk hd (fun t e => R t (hops t (by simp [e])))) ho e
  ·simp at h
 ·next X Xs hargs =>
  split at h
  ·next x xs hx hxs =>
   simp at h; subst h
   exact SoundQ.good fun K ι hp w a A hk H R r h' e => sim_maxmin (isMax := true) H (compG_ev H hk hx (fun t e => R t (hops t (by rw [hargs, e]; simp)))) (compGs_ev H hk hxs (fun t ht => R t (hops t (by rw [hargs]; simp [ht])))) hargs ho e
  ·simp at h
 ·next X Xs hargs =>
  split at h
  ·next x xs hx hxs =>
   simp at h; subst h
   exact SoundQ.good fun K ι hp w a A hk H R r h' e => sim_maxmin (isMax := false) H (compG_ev H hk hx (fun t e => R t (hops t (by rw [hargs, e]; simp)))) (compGs_ev H hk hxs (fun t ht => R t (hops t (by rw [hargs]; simp [ht])))) hargs ho e
  ·simp at h
 ·simp at h
def extCall (P : Program) : Operand → Option Ext
 | .func f => extOf P f
 | _ => none
def compOp (P : Program) (glb : Gl) (op : Op) : Option COp :=
 match op with
 | .move x | .assign x => (compG glb x).map .move
 | .pick c a b => match compG glb c, compG glb a, compG glb b with
  | some c, some a, some b => some (.pick c a b)
  | _, _, _ => none
 | .alloc t => (tyZero P t).map .new
 | .box _ x => (compG glb x).map .box
 | .build t parts => compBuild P glb t parts
 | .buildSlice t len parts => match P.underlying t with
  | some (.slice el) => match tyZero P el, tySize P el with
   | some zero, some sz => if len * sz ≤ 16777216 then (partsG glb (fun i => some (i * sz, sz)) parts.toList).map (.buildSlice zero len) else none
   | _, _ => none
  | _ => none
 | .load t x => match tyAgg P t, tySize P t, compG glb x with
  | some agg, some n, some x => some (.load agg n x)
  | _, _, _ => none
 | .store t p x => match tySize P t, compG glb p, compG glb x with
  | some n, some p, some x => some (.store n p x)
  | _, _, _ => none
 | .nilCheck x => (compG glb x).map .nilCheck
 | .binOp op t x y _ => compBin P glb op t x y
 | .unOp op _ x => (compG glb x).map (.un op)
 | .convert s d x => compConv P glb s d x
 | .makeInterface t x => match P.underlying t with
  | some (.interface _) | none => none
  | some _ => (compG glb x).map (.iface t)
 | .makeFunc (.func f) first cap => match compGs glb first.toList, compGs glb cap.toList with
  | some fs, some cs => some (.func f fs cs)
  | _, _ => none
 | .makeMap t r => match r, P.underlying t with
  | none, _ => some .newMap
  | some (.const (.int _ _)), some (.map ..) => some .newMap
  | _, _ => none
 | .makeSlice t l c => match P.underlying t with
  | some (.slice el) => match P.info? el, tyZero P el, compG glb l, compG glb c with
   | some i, some zero, some l, some c => some (.makeSlice zero i.bytes l c)
   | _, _, _, _ => none
  | _ => none
 | .slice t x lo hi mx => match compG glb x, compGo glb lo, compGo glb hi, compGo glb mx, P.underlying t with
  | some x, some lo, some hi, some none, some .string => some (.sliceStr x lo hi)
  | some x, some lo, some hi, some mx, some (.slice el) => (tySize P el).map fun sz => .slice sz x lo hi mx
  | some x, some lo, some hi, some mx, some (.array n el) => (tySize P el).map fun sz => .sliceArr n sz x lo hi mx
  | _, _, _, _, _ => none
 | .fieldAddr s x k => match P.underlying s with
  | some (.struct fields) => match fields[k]? with
   | some f => match tySize P f.type, compG glb x with
    | some n, some x => if n = 0 then none else some (.fieldAddr f.offset x)
    | _, _ => none
   | none => none
  | _ => none
 | .field s x k => match P.underlying s with
  | some (.struct fields) => match fields[k]? with
   | some f => match tyAgg P f.type, tySize P f.type, compG glb x with
    | some agg, some n, some x => some (.part agg f.offset n x)
    | _, _, _ => none
   | none => none
  | _ => none
 | .indexAddr t x i => match compG glb x, compG glb i, P.underlying t with
  | some x, some i, some (.slice el) => (tySize P el).map fun sz => .indexAddr sz x i
  | some x, some i, some (.array n el) => (tySize P el).map fun sz => .indexAddrArr n sz x i
  | _, _, _ => none
 | .index t x i => match compG glb x, compG glb i, P.underlying t with
  | some x, some i, some .string => some (.indexStr x i)
  | some x, some i, some (.array n el) => match tyAgg P el, tySize P el with
   | some agg, some sz => some (.indexArr n agg sz x i)
   | _, _ => none
  | _, _, _ => none
 | .typeAssert x _ t ok => match compG glb x, P.underlying t, tyZeroV P t with
  | some x, some d, some zero => if noIface d then some (.assert t zero ok x) else none
  | _, _, _ => none
 | .lookup t m k ok => match compG glb m, compG glb k, P.underlying t with
  | some m, some k, some (.map kt el) => match tyKey P kt, tyZeroV P el with
   | some kc, some zero => some (.lookup kc zero ok m k)
   | _, _ => none
  | _, _, _ => none
 | .mapUpdate t m k v | .insert t m k v => match compG glb m, compG glb k, compG glb v, P.underlying t with
  | some m, some k, some v, some (.map kt _) => (tyKey P kt).map fun kc => .mapUpdate kc m k v
  | _, _, _, _ => none
 | .mapEntry t m k => match compG glb m, compG glb k, P.underlying t with
  | some m, some k, some (.map kt el) => match tyKey P kt, tyZeroV P el with
   | some kc, some zero => some (.mapEntry kc zero m k)
   | _, _ => none
  | _, _, _ => none
 | .entryStore _ m s x => match compG glb m, compG glb s, compG glb x with
  | some m, some s, some x => some (.entryStore m s x)
  | _, _, _ => none
 | .extract x i => (compG glb x).map fun x => .extract x i
 | .range t x => match P.underlying t with
  | some .string => (compG glb x).map .rangeStr
  | _ => none
 | .next x true => (compG glb x).map .nextStr
 | .call c => match c.callee with
  | .builtin b => compBuiltin P glb b c.args c.argTypes
  | .value f => match extCall P f with
   | some e => (compGs glb c.args.toList).map (.ext e)
   | none => match compG glb f, compGs glb c.args.toList with
    | some f, some xs => some (.call f xs)
    | _, _ => none
  | .invoke r m => match compG glb r, compGs glb c.args.toList with
   | some x, some xs => some (.invoke ((List.range P.types.size).filterMap fun t => (methOf P m t).map (t, ·)) x xs)
   | _, _ => none
 | .defer c => match c.callee with
  | .value f => match compG glb f, compGs glb c.args.toList with
   | some f, some xs => some (.defer f xs)
   | _, _ => none
  | _ => none
 | _ => none
theorem compOp_good {P : Program} {glb : Gl} {o : Oper} {co : COp} (h : compOp P glb o.op = some co) : Good P glb o co := by
 cases ho : o.op with
 | move x =>
  rw [ho] at h; simp only [compOp] at h
  obtain ⟨x', hx, rfl⟩ := Option.map_eq_some_iff.1 h
  exact SoundQ.good fun K ι hp w a A hk H R r h' e => sim_move H (compG_ev H hk hx (fun t e => R t (by rw [ho, e]; simp [Op.operands]))) (.inl ho) e
 | assign x =>
  rw [ho] at h; simp only [compOp] at h
  obtain ⟨x', hx, rfl⟩ := Option.map_eq_some_iff.1 h
  exact SoundQ.good fun K ι hp w a A hk H R r h' e => sim_move H (compG_ev H hk hx (fun t e => R t (by rw [ho, e]; simp [Op.operands]))) (.inr ho) e
 | pick c x y =>
  rw [ho] at h; simp only [compOp] at h
  split at h
  ·next c' x' y' hc hx hy =>
   simp at h; subst h
   exact SoundQ.good fun K ι hp w a A hk H R r h' e => sim_pick H (compG_ev H hk hc (fun t e => R t (by rw [ho, e]; simp [Op.operands]))) (compG_ev H hk hx (fun t e => R t (by rw [ho, e]; simp [Op.operands]))) (compG_ev H hk hy (fun t e => R t (by rw [ho, e]; simp [Op.operands]))) ho e
  ·simp at h
 | alloc t =>
  rw [ho] at h; simp only [compOp] at h
  obtain ⟨zero, hz, rfl⟩ := Option.map_eq_some_iff.1 h
  obtain ⟨i, zv, hi, hzv, hsz, h1, R0, hrun⟩ := tyZero_spec hz
  exact SoundA.good (fun K ι hp w a A hk H R id v obj e => sim_new H (hrun w) (R0 ι) h1 ho e)
 | box t x =>
  rw [ho] at h; simp only [compOp] at h
  obtain ⟨x', hx, rfl⟩ := Option.map_eq_some_iff.1 h
  exact SoundA.good (fun K ι hp w a A hk H R id v obj e => sim_box H (compG_ev H hk hx (fun t e => R t (by rw [ho, e]; simp [Op.operands]))) ho e)
 | build t parts => rw [ho] at h; exact compBuild_good h ho
 | buildSlice t len parts =>
  rw [ho] at h; simp only [compOp] at h
  split at h
  ·next el hu =>
   split at h
   ·next zero sz hz hsz =>
    split at h
    ·next hs =>
     obtain ⟨qs, hqs, rfl⟩ := Option.map_eq_some_iff.1 h
     obtain ⟨i, zv, hi, hzv, hzs, h1, R0, hrun⟩ := tyZero_spec hz
     refine SoundA.good (fun K ι hp w a A hk H R id v obj e => ?_)
     have hp := partsG_rel H hk hqs (fun t' ht => R t' (by rw [ho]; simpa [Op.operands] using ht))
     have hsz' : i.size = sz := by unfold tySize at hsz; rw [hi] at hsz; simpa using hsz
     exact sim_buildSlice H hu (tySize_run hsz w) hs (hrun w) (R0 ι) (hzs.trans hsz') hp ho e
    ·simp at h
   ·simp at h
  ·simp at h
 | insert t m k v =>
  rw [ho] at h; simp only [compOp] at h
  split at h
  ·next m' k' v' kt el hm hkk hv hu =>
   obtain ⟨kc, hkc, rfl⟩ := Option.map_eq_some_iff.1 h
   refine Sound.good (fun K ι hp w a A hk H R r h' e _ => ?_) rfl
   exact sim_mapUpdate H hu (tyKey_fits hkc) (compG_ev H hk hm (fun t e => R t (by rw [ho, e]; simp [Op.operands]))) (compG_ev H hk hkk (fun t e => R t (by rw [ho, e]; simp [Op.operands]))) (compG_ev H hk hv (fun t e => R t (by rw [ho, e]; simp [Op.operands]))) (.inr ho) e
  ·simp at h
 | load t x =>
  rw [ho] at h; simp only [compOp] at h
  split at h
  ·next agg n x' hag hn hx =>
   simp at h; subst h
   exact SoundQ.good fun K ι hp w a A hk H R r h' e => sim_load H (tyAgg_run hag w) (fun _ => tySize_run hn w) (compG_ev H hk hx (fun t e => R t (by rw [ho, e]; simp [Op.operands]))) ho e
  ·simp at h
 | store t p x =>
  rw [ho] at h; simp only [compOp] at h
  split at h
  ·next n p' x' hn hpp hx =>
   simp at h; subst h
   exact Sound.good (fun K ι hp w a A hk H R r h' e _ => sim_store H (tySize_run hn w) (compG_ev H hk hpp (fun t e => R t (by rw [ho, e]; simp [Op.operands]))) (compG_ev H hk hx (fun t e => R t (by rw [ho, e]; simp [Op.operands]))) ho e) rfl
  ·simp at h
 | nilCheck x =>
  rw [ho] at h; simp only [compOp] at h
  obtain ⟨x', hx, rfl⟩ := Option.map_eq_some_iff.1 h
  exact SoundQ.good fun K ι hp w a A hk H R r h' e => sim_nilCheck H (compG_ev H hk hx (fun t e => R t (by rw [ho, e]; simp [Op.operands]))) ho e
 | binOp op t x y t' => rw [ho] at h; exact (compBin_sound h ho).good (compBin_isA h)
 | unOp op t x =>
  rw [ho] at h; simp only [compOp] at h
  obtain ⟨x', hx, rfl⟩ := Option.map_eq_some_iff.1 h
  exact SoundQ.good fun K ι hp w a A hk H R r h' e => sim_un H (compG_ev H hk hx (fun t e => R t (by rw [ho, e]; simp [Op.operands]))) ho e
 | convert s d x => rw [ho] at h; exact compConv_good h ho
 | makeInterface t x =>
  rw [ho] at h; simp only [compOp] at h
  split at h
  ·simp at h
  ·simp at h
  ·next d hne hu =>
   obtain ⟨x', hx, rfl⟩ := Option.map_eq_some_iff.1 h
   exact SoundQ.good fun K ι hp w a A hk H R r h' e => sim_iface H ⟨d, hu, fun ms e1 => hne ms e1⟩ (compG_ev H hk hx (fun t e => R t (by rw [ho, e]; simp [Op.operands]))) ho e
 | makeFunc fn first cap =>
  rw [ho] at h
  cases fn with
  | func f =>
   simp only [compOp] at h
   split at h
   ·next fs cs hf hc =>
    simp at h; subst h
    exact SoundQ.good fun K ι hp w a A hk H R r h' e => sim_func H (compGs_ev H hk hf (fun t ht => R t (by rw [ho]; simp [Op.operands] at ht ⊢; exact .inl ht))) (compGs_ev H hk hc (fun t ht => R t (by rw [ho]; simp [Op.operands] at ht ⊢; exact .inr ht))) ho e
   ·simp at h
  | _ => simp [compOp] at h
 | makeMap t r =>
  rw [ho] at h; simp only [compOp] at h
  split at h
  ·simp at h; subst h
   exact SoundA.good (fun K ι hp w a A hk H R id v obj e => sim_newMap (t := t) (R := none) H trivial ho e)
  ·next k n x y hu =>
   simp at h; subst h
   exact SoundA.good (fun K ι hp w a A hk H R id v obj e => sim_newMap (t := t) (R := some (.const (.int k n))) H (show ∃ _ _, _ from ⟨k, n, rfl, x, y, hu⟩) ho e)
  ·simp at h
 | makeSlice t l c =>
  rw [ho] at h; simp only [compOp] at h
  split at h
  ·next el hu =>
   split at h
   ·next i zero l' c' hi hz hl hc =>
    simp at h; subst h
    obtain ⟨i', zv, hi', hzv, hzs, h1, R0, hrun⟩ := tyZero_spec hz
    rw [hi] at hi'; simp at hi'; subst hi'
    exact SoundA.good (fun K ι hp w a A hk H R id v obj e => sim_makeSlice H hu hi hzv (R0 ι) hzs h1 (compG_ev H hk hl (fun t e => R t (by rw [ho, e]; simp [Op.operands]))) (compG_ev H hk hc (fun t e => R t (by rw [ho, e]; simp [Op.operands]))) ho e)
   ·simp at h
  ·simp at h
 | slice t x lo hi mx =>
  rw [ho] at h; simp only [compOp] at h
  split at h
  ·next x' lo' hi' hx hlo hhi hmx hu =>
   simp at h; subst h
   refine SoundQ.good fun K ι hp w a A hk H R r h' e => ?_
   have hm : mx = none := by
    cases mx with
    | none => rfl
    | some m => unfold compGo at hmx; split at hmx <;> simp [compXo] at hmx
   subst hm
   exact sim_sliceStr H hu (compG_ev H hk hx (fun t e => R t (by rw [ho, e]; simp [Op.operands]))) (compGo_ev H hk hlo (fun t e => R t (by rw [ho, e]; simp [Op.operands]))) (compGo_ev H hk hhi (fun t e => R t (by rw [ho, e]; simp [Op.operands]))) ho e
  ·next x' lo' hi' mx' el hx hlo hhi hmx hu =>
   obtain ⟨sz, hsz, rfl⟩ := Option.map_eq_some_iff.1 h
   exact SoundQ.good fun K ι hp w a A hk H R r h' e => sim_slice H hu (tySize_run hsz w) (compG_ev H hk hx (fun t e => R t (by rw [ho, e]; simp [Op.operands]))) (compGo_ev H hk hlo (fun t e => R t (by rw [ho, e]; simp [Op.operands]))) (compGo_ev H hk hhi (fun t e => R t (by rw [ho, e]; simp [Op.operands]))) (compGo_ev H hk hmx (fun t e => R t (by rw [ho, e]; simp [Op.operands]))) ho e
  ·next x' lo' hi' mx' n el hx hlo hhi hmx hu =>
   obtain ⟨sz, hsz, rfl⟩ := Option.map_eq_some_iff.1 h
   exact SoundQ.good fun K ι hp w a A hk H R r h' e => sim_sliceArr H hu (tySize_run hsz w) (compG_ev H hk hx (fun t e => R t (by rw [ho, e]; simp [Op.operands]))) (compGo_ev H hk hlo (fun t e => R t (by rw [ho, e]; simp [Op.operands]))) (compGo_ev H hk hhi (fun t e => R t (by rw [ho, e]; simp [Op.operands]))) (compGo_ev H hk hmx (fun t e => R t (by rw [ho, e]; simp [Op.operands]))) ho e
  ·simp at h
 | fieldAddr s x k =>
  rw [ho] at h; simp only [compOp] at h
  split at h
  ·next fields hu =>
   split at h
   ·next f hf =>
    split at h
    ·next n x' hn hx =>
     split at h
     ·simp at h
     ·next h0 =>
      simp at h; subst h
      exact SoundQ.good fun K ι hp w a A hk H R r h' e => sim_fieldAddr H hu hf (tySize_run hn w) h0 (compG_ev H hk hx (fun t e => R t (by rw [ho, e]; simp [Op.operands]))) ho e
    ·simp at h
   ·simp at h
  ·simp at h
 | field s x k =>
  rw [ho] at h; simp only [compOp] at h
  split at h
  ·next fields hu =>
   split at h
   ·next f hf =>
    split at h
    ·next agg n x' hag hn hx =>
     simp at h; subst h
     exact SoundQ.good fun K ι hp w a A hk H R r h' e => sim_field H hu hf (tyAgg_run hag w) (fun _ => tySize_run hn w) (compG_ev H hk hx (fun t e => R t (by rw [ho, e]; simp [Op.operands]))) ho e
    ·simp at h
   ·simp at h
  ·simp at h
 | indexAddr t x i =>
  rw [ho] at h; simp only [compOp] at h
  split at h
  ·next x' i' el hx hi hu =>
   obtain ⟨sz, hsz, rfl⟩ := Option.map_eq_some_iff.1 h
   exact SoundQ.good fun K ι hp w a A hk H R r h' e => sim_indexAddr H hu (tySize_run hsz w) (compG_ev H hk hx (fun t e => R t (by rw [ho, e]; simp [Op.operands]))) (compG_ev H hk hi (fun t e => R t (by rw [ho, e]; simp [Op.operands]))) ho e
  ·next x' i' n el hx hi hu =>
   obtain ⟨sz, hsz, rfl⟩ := Option.map_eq_some_iff.1 h
   exact SoundQ.good fun K ι hp w a A hk H R r h' e => sim_indexAddrArr H hu (tySize_run hsz w) (compG_ev H hk hx (fun t e => R t (by rw [ho, e]; simp [Op.operands]))) (compG_ev H hk hi (fun t e => R t (by rw [ho, e]; simp [Op.operands]))) ho e
  ·simp at h
 | index t x i =>
  rw [ho] at h; simp only [compOp] at h
  split at h
  ·next x' i' hx hi hu =>
   simp at h; subst h
   exact SoundQ.good fun K ι hp w a A hk H R r h' e => sim_indexStr H hu (compG_ev H hk hx (fun t e => R t (by rw [ho, e]; simp [Op.operands]))) (compG_ev H hk hi (fun t e => R t (by rw [ho, e]; simp [Op.operands]))) ho e
  ·next x' i' n el hx hi hu =>
   split at h
   ·next agg sz hag hsz =>
    simp at h; subst h
    exact SoundQ.good fun K ι hp w a A hk H R r h' e => sim_indexArr H hu (tyAgg_run hag w) (tySize_run hsz w) (compG_ev H hk hx (fun t e => R t (by rw [ho, e]; simp [Op.operands]))) (compG_ev H hk hi (fun t e => R t (by rw [ho, e]; simp [Op.operands]))) ho e
   ·simp at h
  ·simp at h
 | typeAssert x xt t ok =>
  rw [ho] at h; simp only [compOp] at h
  split at h
  ·next x' d zero hx hu hz =>
   split at h
   ·next hd =>
    simp only [Option.some.injEq] at h; subst h
    obtain ⟨zv, R0, hrun⟩ := tyZeroV_spec hz
    exact SoundQ.good fun K ι hp w a A hk H R r h' e => sim_assert H hu hd (hrun w) (R0 ι) (compG_ev H hk hx (fun t e => R t (by rw [ho, e]; simp [Op.operands]))) ho e
   ·simp at h
  ·simp at h
 | lookup t m k ok =>
  rw [ho] at h; simp only [compOp] at h
  split at h
  ·next m' k' kt el hm hkk hu =>
   split at h
   ·next kc zero hkc hz =>
    simp at h; subst h
    obtain ⟨zv, R0, hrun⟩ := tyZeroV_spec hz
    exact SoundQ.good fun K ι hp w a A hk H R r h' e => sim_lookup H hu (tyKey_fits hkc) (hrun w) (R0 ι) (compG_ev H hk hm (fun t e => R t (by rw [ho, e]; simp [Op.operands]))) (compG_ev H hk hkk (fun t e => R t (by rw [ho, e]; simp [Op.operands]))) ho e
   ·simp at h
  ·simp at h
 | mapUpdate t m k v =>
  rw [ho] at h; simp only [compOp] at h
  split at h
  ·next m' k' v' kt el hm hkk hv hu =>
   obtain ⟨kc, hkc, rfl⟩ := Option.map_eq_some_iff.1 h
   refine Sound.good (fun K ι hp w a A hk H R r h' e _ => ?_) rfl
   exact sim_mapUpdate H hu (tyKey_fits hkc) (compG_ev H hk hm (fun t e => R t (by rw [ho, e]; simp [Op.operands]))) (compG_ev H hk hkk (fun t e => R t (by rw [ho, e]; simp [Op.operands]))) (compG_ev H hk hv (fun t e => R t (by rw [ho, e]; simp [Op.operands]))) (.inl ho) e
  ·simp at h
 | mapEntry t m k =>
  rw [ho] at h; simp only [compOp] at h
  split at h
  ·next m' k' kt el hm hkk hu =>
   split at h
   ·next kc zero hkc hz =>
    simp at h; subst h
    obtain ⟨zv, R0, hrun⟩ := tyZeroV_spec hz
    refine Sound.good (fun K ι hp w a A hk H R r h' e _ => ?_) rfl
    exact sim_mapEntry H hu (tyKey_fits hkc) (hrun w) (R0 ι) (compG_ev H hk hm (fun t e => R t (by rw [ho, e]; simp [Op.operands]))) (compG_ev H hk hkk (fun t e => R t (by rw [ho, e]; simp [Op.operands]))) ho e
   ·simp at h
  ·simp at h
 | entryStore t m s x =>
  rw [ho] at h; simp only [compOp] at h
  split at h
  ·next m' s' x' hm hs hx =>
   simp at h; subst h
   refine Sound.good (fun K ι hp w a A hk H R r h' e _ => ?_) rfl
   exact sim_entryStore H (compG_ev H hk hm (fun t e => R t (by rw [ho, e]; simp [Op.operands]))) (compG_ev H hk hs (fun t e => R t (by rw [ho, e]; simp [Op.operands]))) (compG_ev H hk hx (fun t e => R t (by rw [ho, e]; simp [Op.operands]))) ho e
  ·simp at h
 | extract x i =>
  rw [ho] at h; simp only [compOp] at h
  obtain ⟨x', hx, rfl⟩ := Option.map_eq_some_iff.1 h
  exact SoundQ.good fun K ι hp w a A hk H R r h' e => sim_extract H (compG_ev H hk hx (fun t e => R t (by rw [ho, e]; simp [Op.operands]))) ho e
 | range t x =>
  rw [ho] at h; simp only [compOp] at h
  split at h
  ·next hu =>
   obtain ⟨x', hx, rfl⟩ := Option.map_eq_some_iff.1 h
   exact Sound.good (fun K ι hp w a A hk H R r h' e _ => sim_rangeStr H hu (compG_ev H hk hx (fun t e => R t (by rw [ho, e]; simp [Op.operands]))) ho e) rfl
  ·simp at h
 | next x b =>
  rw [ho] at h
  cases b with
  | false => simp [compOp] at h
  | true =>
   simp only [compOp] at h
   obtain ⟨x', hx, rfl⟩ := Option.map_eq_some_iff.1 h
   exact Sound.good (fun K ι hp w a A hk H R r h' e _ => sim_nextStr H (compG_ev H hk hx (fun t e => R t (by rw [ho, e]; simp [Op.operands]))) ho e) rfl
 | call c =>
  rw [ho] at h
  obtain ⟨callee, args, ats⟩ := c
  cases callee with
  | builtin b => exact compBuiltin_good h ho
  | value f =>
   simp only [compOp] at h
   split at h
   ·next e he =>
    obtain ⟨xs, hxs, rfl⟩ := Option.map_eq_some_iff.1 h
    obtain ⟨g, rfl, hg⟩ : ∃ g, f = .func g ∧ extOf P g = some e := by
     cases f <;> first | exact ⟨_, rfl, he⟩ | (simp [extCall] at he)
    exact Sound.good (fun K ι hp w a A hk H R r h' e' _ => sim_ext H (extOf_ok hg) (compGs_ev H hk hxs (fun t ht => R t (by rw [ho]; simp [Op.operands, Call.operands] at ht ⊢; exact ht))) ho e') rfl
   split at h
   ·next f' xs hf hxs =>
    simp at h; subst h
    exact Sound.good (fun K ι hp w a A hk H R r h' e hb => sim_call H (compG_ev H hk hf (fun t e => R t (by rw [ho, e]; simp [Op.operands, Call.operands]))) (compGs_ev H hk hxs (fun t ht => R t (by rw [ho]; simp [Op.operands, Call.operands] at ht ⊢; exact .inr ht))) ho e hb) rfl
   ·simp at h
  | invoke f m =>
   simp only [compOp] at h
   split at h
   ·next f' xs hf hxs =>
    simp only [Option.some.injEq] at h; subst h
    refine Sound.good (fun K ι hp w a A hk H R r h' e hb => sim_invoke H (fun t g hm => ?_) (compG_ev H hk hf (fun t e => R t (by rw [ho, e]; simp [Op.operands, Call.operands]))) (compGs_ev H hk hxs (fun t ht => R t (by rw [ho]; simp [Op.operands, Call.operands] at ht ⊢; exact .inr ht))) ho e hb) rfl
    simp only [List.mem_filterMap, Option.map_eq_some_iff, Prod.mk.injEq] at hm
    obtain ⟨u, _, g', h1, rfl, rfl⟩ := hm
    exact h1
   ·simp at h
 | defer c =>
  rw [ho] at h
  obtain ⟨callee, args, ats⟩ := c
  cases callee with
  | value f =>
   simp only [compOp] at h
   split at h
   ·next f' xs hf hxs =>
    simp at h; subst h
    exact Sound.good (fun K ι hp w a A hk H R r h' e _ => sim_defer H (compG_ev H hk hf (fun t e => R t (by rw [ho, e]; simp [Op.operands, Call.operands]))) (compGs_ev H hk hxs (fun t ht => R t (by rw [ho]; simp [Op.operands, Call.operands] at ht ⊢; exact .inr ht))) ho e) rfl
   ·simp at h
  | builtin b => simp [compOp] at h
  | invoke r m => simp [compOp] at h
 | _ => rw [ho] at h; simp [compOp] at h
def DR (ι : Emb) (x : FuncId × List CVal) (d : Deferred) : Prop := match isMark x with
 | some i => ∃ b e, ι i = some (b, 0, e) ∧ d.target = .collected b
 | none => ∃ cap : Array Value, d.target = .fn (.func x.1) cap ∧ VRs ι x.2 (d.args ++ cap).toList
theorem DR.of {ι : Emb} {f : FuncId} {args : List CVal} {d : Deferred} (hm : isMark (f, args) = none) (h : ∃ cap : Array Value, d.target = .fn (.func f) cap ∧ VRs ι args (d.args ++ cap).toList) : DR ι (f, args) d := by
 unfold DR; rw [hm]; exact h
theorem DR.mono {ι ι' : Emb} (hι : ι.le ι') {x : FuncId × List CVal} {d : Deferred} (h : DR ι x d) : DR ι' x d := by
 unfold DR at h ⊢
 split
 ·next i hm =>
  rw [hm] at h
  obtain ⟨b, e, h1, h2⟩ := h
  exact ⟨b, e, hι _ _ h1, h2⟩
 ·next hm =>
  rw [hm] at h
  obtain ⟨cap, h1, h2⟩ := h
  exact ⟨cap, h1, h2.mono hι⟩
def DRs (ι : Emb) : List (FuncId × List CVal) → List Deferred → Prop
 | [], [] => True
 | x :: xs, d :: ds => DR ι x d ∧ DRs ι xs ds
 | _, _ => False
theorem DRs.mono {ι ι' : Emb} (hι : ι.le ι') : ∀ {xs : List (FuncId × List CVal)} {ds : List Deferred}, DRs ι xs ds → DRs ι' xs ds
 | [], [], _ => trivial
 | _ :: _, _ :: _, ⟨h, k⟩ => ⟨h.mono hι, DRs.mono hι k⟩
 | [], _ :: _, h => h.elim
 | _ :: _, [], h => h.elim
structure FrR (ι : Emb) (a : Fr) (A : Act) : Prop where
 tmps : VRs ι a.tmps A.tmps.toList
 defers : DRs ι a.defers A.defers
theorem FrR.mono {ι ι' : Emb} {a : Fr} {A : Act} (hι : ι.le ι') (h : FrR ι a A) : FrR ι' a A := ⟨h.tmps.mono hι, h.defers.mono hι⟩
theorem FrR.put {ι : Emb} {a : Fr} {A : Act} (h : FrR ι a A) {v : CVal} {v' : Value} (hv : VR ι v v') (d : Option Nat) : FrR ι (a.put d v) (A.put d v') := by
 cases d with
 | none => exact h
 | some d => exact ⟨by simpa [Fr.put, Act.put] using h.tmps.set hv d, h.defers⟩
theorem VR.un (ι : Emb) : VR ι .un Go.undef := .tuple [] #[] .nil
def noDefO (ops : Array Oper) : Bool := ops.toList.all fun o => match o.op with
 | .defer _ => false
 | _ => true
def noDef : Code → Bool
 | .region _ ops _ => noDefO ops
 | .seq a b => noDef a && noDef b
 | .cond _ a b => noDef a && noDef b
 | .block _ b => noDef b
 | .loop b => noDef b
 | .scope b => noDef b
 | .rangeFunc _ _ _ _ => false
 | _ => true
theorem and1 {a b : Bool} (h : (a && b) = true) : a = true := by cases a <;> simp_all
theorem and2 {a b : Bool} (h : (a && b) = true) : b = true := by cases a <;> simp_all
theorem noDef_label {l : Nat} {p : Code} : ∀ {q : Code}, findLabel p l = some q → noDef p = true → noDef q = true := by
 induction p with
 | seq a b iha ihb =>
  intro q h hd
  simp only [findLabel] at h
  have hd : (noDef a && noDef b) = true := hd
  split at h
  ·next rest he =>
   simp only [Option.some.injEq] at h; subst h
   show (noDef rest && noDef b) = true
   rw [iha he (and1 hd), and2 hd]; rfl
  ·exact ihb h (and2 hd)
 | label l' =>
  intro q h hd
  simp only [findLabel] at h
  split at h
  ·simp only [Option.some.injEq] at h; subst h; rfl
  ·simp at h
 | _ => intro q h; simp [findLabel] at h
abbrev Wd (r : Option Nat) : Fence := { fn := fun _ => True, depth := none, alive := false, round := r }
theorem fenced_wd (P : Program) (r : Option Nat) (m : Machine) : m.fenced P (Wd r) := fenced_wide P m
theorem callsIn_wd {r : Option Nat} {n : Nat} {P : Program} {f : FuncId} {args : Array Value} {w : World} {R : Ending → World → Prop} : CallsIn (Wd r) n P f args w R ↔ Calls P f args w R := callsIn_wide
theorem about_wd {P : Program} {r : Option Nat} {o : Oper} {w : World} {ρ : Operand → Value} : ∀ f, o.about P w ρ = some f → (Wd r).fn f := fun _ _ => trivial
structure CallOk (P : Program) (glb : Gl) (call : CallFn) : Prop where
 body : ∀ f args h r, call (fId f) args h = some r → HasBody P f
 calls : ∀ (K : Ctx) (ι : Emb) (h : Heap) (w : World) (f : FuncId) (args : List CVal) (args' : Array Value) (v : CVal) (h' : Heap), K.glb = glb → Inv K ι h w → VRs ι args args'.toList →
  call (fId f) args h = some (v, h') → Calls P f args' w fun e w' => ∃ ι' v', ι.le ι' ∧ e = .returned v' ∧ Inv K ι' h' w' ∧ VR ι' v v'
 rounds : ∀ (K : Ctx) (ι : Emb) (h : Heap) (w : World) (i : Nat) (args : List CVal) (l : Nat) (f : FuncId) (tmps : Array Value) (asg body : Code) (v : CVal) (h' : Heap), K.glb = glb → Inv K ι h w → RoundR ι w i args (.round l f tmps asg body) →
  call (yId i) args h = some (v, h') → RoundIn (Wd none) 0 P l f tmps asg body w fun e w' => ∃ ι' v', ι.le ι' ∧ e = .returned v' ∧ Inv K ι' h' w' ∧ VR ι' v v'
structure CalldOk (P : Program) (glb : Gl) (call : CallFn) : Prop where
 body : ∀ f args h r, call f args h = some r → HasBody P f
 calls : ∀ (K : Ctx) (ι : Emb) (h : Heap) (w : World) (f : FuncId) (args : List CVal) (args' : Array Value) (v : CVal) (h' : Heap), K.glb = glb → Inv K ι h w → VRs ι args args'.toList →
  call f args h = some (v, h') → CallsDIn (Wd none) 0 P f args' .returning w fun e u' w' => u' = .returning ∧ ∃ ι' v', ι.le ι' ∧ e = .returned v' ∧ Inv K ι' h' w'
structure CoperR (P : Program) (glb : Gl) (ops : Array Oper) (o : Oper) (c : COper) : Prop where
 dst : c.dst = o.dst
 good : Good P glb o c.op
 guard : match o.guard, c.guard with
  | none, none => True
  | some (j, want), some (t, want') => want = want' ∧ (ops[j]?).bind (·.dst) = some t
  | _, _ => False
section
variable {P : Program} {glb : Gl} {call : CallFn}
def COper.looks (c : COper) (o : Oper) (t : Nat) : Prop := Operand.tmp t ∈ o.op.operands.toList ∨ ∃ b, c.guard = some (t, b)
theorem wanted_sim {ops : Array Oper} {o : Oper} {c : COper} (R : CoperR P glb ops o c) {ι : Emb} {a : List CVal} {A : Act} (F : ∀ t, c.looks o t → TmpR ι a A t) {b : Bool} (e : wantC a c.guard = some b) :
  Region.wanted o (yielded ops A.tmps) = b := by
 have hg := R.guard
 unfold Region.wanted
 cases ho : o.guard with
 | none =>
  rw [ho] at hg
  cases hc : c.guard with
  | none => rw [hc] at e; simpa [wantC] using e
  | some x => rw [hc] at hg; exact hg.elim
 | some p =>
  obtain ⟨j, want⟩ := p
  rw [ho] at hg
  cases hc : c.guard with
  | none => rw [hc] at hg; exact hg.elim
  | some q =>
   obtain ⟨t, want'⟩ := q
   have Ft := F t (.inr ⟨want', hc⟩)
   rw [hc] at hg e
   obtain ⟨rfl, hd⟩ := hg
   simp only [wantC] at e
   unfold TmpR at Ft
   generalize a.getD t .undef = v at Ft e
   simp only [yielded, hd, Option.bind_some]
   rw [Array.getD_eq_getD_getElem?] at Ft
   cases ht : A.tmps[t]? with
   | none =>
    rw [ht] at Ft
    simp only [Option.getD_none] at Ft
    split at e
    ·next b' => cases Ft
    ·simpa using e
    ·simp at e
   | some v' =>
    rw [ht] at Ft
    simp only [Option.getD_some] at Ft
    split at e
    ·next b' => cases Ft; simpa using e
    ·cases Ft with
     | tuple _ cs' R' => simpa using e
    ·simp at e
theorem oper_sim₁ (hc : CallOk P glb call) {ops : Array Oper} {o : Oper} {c : COper} (R : CoperR P glb ops o c) {a : List CVal} {h h' : Heap} {v : CVal} {ds : List (FuncId × List CVal)} (e : evOp1 call c a h = some (v, ds, h'))
  {K : Ctx} (hk : K.glb = glb) {ι : Emb} {A : Act} {w : World} (H : Inv K ι h w) (F : ∀ t, c.looks o t → TmpR ι a A t) {N : Act → World → Prop} {Q : Exit → Act → World → Prop}
  (next : ∀ ι' v' ds' w', ι.le ι' → Inv K ι' h' w' → VR ι' v v' → DRs ι' ds ds' → N ({ A with defers := ds' ++ A.defers }.put c.dst v') w') {i : Nat} (hi : ops[i]? = some o) {r : Option Nat} (hr : r.isSome = true → ∀ c, o.op ≠ .defer c) : wpOpIn (Wd r) 0 P ops Q i N A w := by
 unfold evOp1 at e
 have hsem : o.semAt r A.eval = execOp A.eval o := by
  cases r with
  | none => rfl
  | some l => exact Oper.semAt_eq _ _ _ (hr rfl)
 simp only [wpOpIn, hi]
 split at e
 ·simp at e
 ·next hw =>
  simp only [wanted_sim R F hw, Bool.false_eq_true, if_false]
  simp only [Option.some.injEq, Prod.mk.injEq] at e
  obtain ⟨rfl, rfl, rfl⟩ := e
  refine ⟨about_wd (r := r), ?_⟩
  rw [← R.dst]
  exact next ι _ [] w (Emb.le.refl _) H (VR.un ι) trivial
 ·next hw =>
  simp only [wanted_sim R F hw, if_true]
  refine ⟨about_wd (r := r), ?_⟩
  show o.uponIn (Wd r) 0 P A N Q ((o.semAt r A.eval).run P w)
  rw [hsem]
  have good := R.good.sound K ι h w a A hk H (fun t ht => F t (.inl ht))
  split at e
  ·simp at e
  ·next v h₁ hcop =>
   simp only [Option.some.injEq, Prod.mk.injEq] at e
   obtain ⟨rfl, rfl, rfl⟩ := e
   obtain ⟨ι', w', n, hle, hrun, H', hn⟩ := good _ _ hcop (fun g args hh => by simp at hh)
   simp only [hrun]
   cases n <;> simp only [NR] at hn <;> first | exact hn.elim | skip
   ·simp only [Oper.uponIn, ← R.dst]; exact next ι' _ [] w' hle H' hn trivial
   ·simp only [Oper.uponIn, ← R.dst]; exact next ι' _ [] w' hle H' hn trivial
  ·next f args h₁ hcop =>
   split at e
   ·next v h₂ hcall =>
    simp only [Option.some.injEq, Prod.mk.injEq] at e
    obtain ⟨rfl, rfl, rfl⟩ := e
    have hbody : ∀ g as, CRes.enter f args = .enter g as → HasBody P g := by
     intro g as hh
     cases hh
     exact hc.body _ _ _ _ hcall
    obtain ⟨ι', w', n, hle, hrun, H', hn⟩ := good _ _ hcop hbody
    simp only [hrun]
    cases n <;> simp only [NR] at hn <;> first | exact hn.elim | skip
    obtain ⟨rfl, hn⟩ := hn
    simp only [Oper.uponIn]
    refine ⟨fun q => by simp at q, callsIn_wd.2 ((hc.calls K ι' h₁ w' _ args _ v h₂ hk H' hn hcall).mono ?_)⟩
    rintro e w'' ⟨ι'', v', hle', rfl, H'', hv⟩
    simp only [← R.dst]
    exact next ι'' _ [] w'' (hle.trans hle') H'' hv trivial
   ·simp at e
  ·next f args h₁ hcop =>
   split at e
   ·simp at e
   ·next hm =>
    simp only [Option.some.injEq, Prod.mk.injEq] at e
    obtain ⟨rfl, rfl, rfl⟩ := e
    obtain ⟨ι', w', n, hle, hrun, H', hn⟩ := good _ _ hcop (fun g args hh => by simp at hh)
    simp only [hrun]
    cases n <;> simp only [NR] at hn <;> first | exact hn.elim | skip
    simp only [Oper.uponIn, ← R.dst]
    exact next ι' _ [_] w' hle H' (VR.un ι') ⟨DR.of hm hn, trivial⟩
  ·next i' args h₁ hcop =>
   split at e
   ·next v h₂ hcall =>
    simp only [Option.some.injEq, Prod.mk.injEq] at e
    obtain ⟨rfl, rfl, rfl⟩ := e
    obtain ⟨ι', w', n, hle, hrun, H', hn⟩ := good _ _ hcop (fun g args hh => by simp at hh)
    have hn' : RoundR ι' w' i' args n := hn
    obtain ⟨l, β, ex, rl, args', q1, q2, q3, q4, rfl⟩ := hn'
    simp only [hrun, Oper.uponIn]
    refine ⟨fun q => by simp at q, (hc.rounds K ι' h₁ w' i' args _ _ _ _ _ v h₂ hk H' ⟨l, β, ex, rl, args', q1, q2, q3, q4, rfl⟩ hcall).mono ?_⟩
    rintro e w'' ⟨ι'', v', hle', rfl, H'', hv⟩
    simp only [← R.dst]
    exact next ι'' _ [] w'' (hle.trans hle') H'' hv trivial
   ·simp at e
theorem DRs.append {ι : Emb} : ∀ {xs ys : List (FuncId × List CVal)} {ds es : List Deferred}, DRs ι xs ds → DRs ι ys es → DRs ι (xs ++ ys) (ds ++ es)
 | [], _, [], _, _, k => k
 | _ :: _, _, _ :: _, _, ⟨h, h'⟩, k => ⟨h, DRs.append h' k⟩
 | [], _, _ :: _, _, h, _ => h.elim
 | _ :: _, _, [], _, h, _ => h.elim
theorem oper_sim (hc : CallOk P glb call) {ops : Array Oper} {o : Oper} {c : COper} (R : CoperR P glb ops o c) {a a' : Fr} {h h' : Heap} (e : evOper call c a h = some (a', h'))
  {K : Ctx} (hk : K.glb = glb) {ι : Emb} {A : Act} {w : World} (H : Inv K ι h w) (F : FrR ι a A) {N : Act → World → Prop} {Q : Exit → Act → World → Prop}
  (next : ∀ ι' A' w', ι.le ι' → Inv K ι' h' w' → FrR ι' a' A' → N A' w') {i : Nat} (hi : ops[i]? = some o) {r : Option Nat} (hr : r.isSome = true → ∀ c, o.op ≠ .defer c) : wpOpIn (Wd r) 0 P ops Q i N A w := by
 unfold evOper at e
 split at e
 ·next v ds h₁ he =>
  simp only [Option.some.injEq, Prod.mk.injEq] at e
  obtain ⟨rfl, rfl⟩ := e
  refine oper_sim₁ hc R he hk H (fun t _ => F.tmps.tmp t) (fun ι' v' ds' w' hle H' hv hds => next ι' _ w' hle H' ?_) hi hr
  have F' := F.mono hle
  exact FrR.put (a := { a with defers := ds ++ a.defers }) (A := { A with defers := ds' ++ A.defers }) ⟨F'.tmps, hds.append F'.defers⟩ hv _
 ·simp at e
end
section
variable {P : Program} {glb : Gl} {call : CallFn}
def ER : CExit → Exit → Prop
 | .normal, .normal => True
 | .exit id, .exit id' => id = id'
 | .ret, .ret => True
 | .goto l, .goto l' => l = l'
 | _, _ => False
def Post (K : Ctx) (ι : Emb) (x : CExit) (a : Fr) (h : Heap) (e : Exit) (A : Act) (w : World) : Prop :=
 ER x e ∧ ∃ ι', ι.le ι' ∧ Inv K ι' h w ∧ FrR ι' a A
def Sim (P : Program) (glb : Gl) (code : Code) (c : CCode) : Prop :=
 ∀ (call : CallFn), CallOk P glb call → ∀ (n : Nat) (a : Fr) (h : Heap) (x : CExit) (a' : Fr) (h' : Heap), evCode call n c a h = some (x, a', h') →
  ∀ (K : Ctx) (ι : Emb) (A : Act) (w : World), K.glb = glb → Inv K ι h w → FrR ι a A → ∀ r : Option Nat, (r.isSome = true → noDef code = true) → code.wpIn (Wd r) 0 P (Post K ι x a' h') A w
theorem Post.mono {K : Ctx} {ι ι₀ : Emb} {x : CExit} {a : Fr} {h : Heap} (hle : ι₀.le ι) {e : Exit} {A : Act} {w : World} : Post K ι x a h e A w → Post K ι₀ x a h e A w :=
 fun ⟨h1, ι', h2, h3⟩ => ⟨h1, ι', hle.trans h2, h3⟩
theorem Sim.skip : Sim P glb .skip .skip := by
 intro call hc n a h x a' h' e K ι A w hk H F r hr
 cases n with
 | zero => simp [evCode] at e
 | succ n =>
  simp only [evCode, Option.some.injEq, Prod.mk.injEq] at e; obtain ⟨rfl, rfl, rfl⟩ := e
  exact wpIn_skip ⟨trivial, ι, Emb.le.refl _, H, F⟩
theorem Sim.label {l : Nat} : Sim P glb (.label l) .skip := by
 intro call hc n a h x a' h' e K ι A w hk H F r hr
 cases n with
 | zero => simp [evCode] at e
 | succ n =>
  simp only [evCode, Option.some.injEq, Prod.mk.injEq] at e; obtain ⟨rfl, rfl, rfl⟩ := e
  exact wpIn_label ⟨trivial, ι, Emb.le.refl _, H, F⟩
theorem Sim.exit {id : Nat} : Sim P glb (.exit id) (.exit id) := by
 intro call hc n a h x a' h' e K ι A w hk H F r hr
 cases n with
 | zero => simp [evCode] at e
 | succ n =>
  simp only [evCode, Option.some.injEq, Prod.mk.injEq] at e; obtain ⟨rfl, rfl, rfl⟩ := e
  exact wpIn_exit ⟨rfl, ι, Emb.le.refl _, H, F⟩
theorem Sim.ret : Sim P glb .ret .ret := by
 intro call hc n a h x a' h' e K ι A w hk H F r hr
 cases n with
 | zero => simp [evCode] at e
 | succ n =>
  simp only [evCode, Option.some.injEq, Prod.mk.injEq] at e; obtain ⟨rfl, rfl, rfl⟩ := e
  exact wpIn_ret ⟨trivial, ι, Emb.le.refl _, H, F⟩
theorem Sim.seq {p q : Code} {c d : CCode} (hp : Sim P glb p c) (hq : Sim P glb q d) : Sim P glb (.seq p q) (.seq c d) := by
 intro call hc n a h x a' h' e K ι A w hk H F r hr
 cases n with
 | zero => simp [evCode] at e
 | succ n =>
  simp only [evCode] at e
  cases h1 : evCode call n c a h with
  | none => simp [h1] at e
  | some r =>
   obtain ⟨y, a₁, h₁⟩ := r
   have s1 := hp call hc n a h y a₁ h₁ h1 K ι A w hk H F r fun z => and1 (hr z)
   refine wpIn_seq (wpIn_mono s1 ?_)
   rintro e₁ A₁ w₁ ⟨hER, ι₁, hle, H₁, F₁⟩
   cases y with
   | normal =>
    simp only [h1] at e
    cases e₁ <;> simp only [ER] at hER
    exact wpIn_mono (hq call hc n a₁ h₁ x a' h' e K ι₁ A₁ w₁ hk H₁ F₁ r fun z => and2 (hr z)) fun _ _ _ => Post.mono hle
   | exit id =>
    simp only [h1, Option.some.injEq, Prod.mk.injEq] at e; obtain ⟨rfl, rfl, rfl⟩ := e
    cases e₁ <;> simp only [ER] at hER
    exact ⟨hER, ι₁, hle, H₁, F₁⟩
   | ret =>
    simp only [h1, Option.some.injEq, Prod.mk.injEq] at e; obtain ⟨rfl, rfl, rfl⟩ := e
    cases e₁ <;> simp only [ER] at hER
    exact ⟨trivial, ι₁, hle, H₁, F₁⟩
   | goto l =>
    simp only [h1, Option.some.injEq, Prod.mk.injEq] at e; obtain ⟨rfl, rfl, rfl⟩ := e
    cases e₁ <;> simp only [ER] at hER
    exact ⟨hER, ι₁, hle, H₁, F₁⟩
theorem Sim.cond {X : Operand} {x : CX} (hX : compG glb X = some x) {p q : Code} {c d : CCode} (hp : Sim P glb p c) (hq : Sim P glb q d) : Sim P glb (.cond X p q) (.cond x c d) := by
 intro call hc n a h y a' h' e K ι A w hk H F r hr
 cases n with
 | zero => simp [evCode] at e
 | succ n =>
  simp only [evCode] at e
  have hv := compG_ev (a := a.tmps) (A := A) H hk hX (fun t _ => F.tmps.tmp t)
  split at e
  ·next he =>
   rw [he] at hv
   generalize hq : A.eval X = v at hv
   cases hv
   exact wpIn_cond_true hq (hp call hc n a h y a' h' e K ι A w hk H F r fun z => and1 (hr z))
  ·next he =>
   rw [he] at hv
   generalize hq' : A.eval X = v at hv
   cases hv
   exact wpIn_cond_false hq' (hq call hc n a h y a' h' e K ι A w hk H F r fun z => and2 (hr z))
  ·simp at e
theorem Sim.block {id : Nat} {p : Code} {c : CCode} (hp : Sim P glb p c) : Sim P glb (.block id p) (.block id c) := by
 intro call hc n a h x a' h' e K ι A w hk H F r hr
 cases n with
 | zero => simp [evCode] at e
 | succ n =>
  simp only [evCode] at e
  cases h1 : evCode call n c a h with
  | none => simp [h1] at e
  | some r =>
   obtain ⟨y, a₁, h₁⟩ := r
   refine wpIn_block (wpIn_mono (hp call hc n a h y a₁ h₁ h1 K ι A w hk H F r hr) ?_)
   rintro e₁ A₁ w₁ ⟨hER, ι₁, hle, H₁, F₁⟩
   cases y with
   | normal =>
    simp only [h1, Option.some.injEq, Prod.mk.injEq] at e; obtain ⟨rfl, rfl, rfl⟩ := e
    cases e₁ <;> simp only [ER] at hER
    exact ⟨trivial, ι₁, hle, H₁, F₁⟩
   | ret =>
    simp only [h1, Option.some.injEq, Prod.mk.injEq] at e; obtain ⟨rfl, rfl, rfl⟩ := e
    cases e₁ <;> simp only [ER] at hER
    exact ⟨trivial, ι₁, hle, H₁, F₁⟩
   | goto l =>
    simp only [h1, Option.some.injEq, Prod.mk.injEq] at e; obtain ⟨rfl, rfl, rfl⟩ := e
    cases e₁ <;> simp only [ER] at hER
    exact ⟨hER, ι₁, hle, H₁, F₁⟩
   | exit id' =>
    cases e₁ <;> simp only [ER] at hER
    subst hER
    simp only [h1] at e
    by_cases hid : id' = id
    ·simp only [hid, if_true, Option.some.injEq, Prod.mk.injEq] at e; obtain ⟨rfl, rfl, rfl⟩ := e
     simp only [Exit.inBlock, hid, if_true]
     exact ⟨trivial, ι₁, hle, H₁, F₁⟩
    ·simp only [hid, if_false, Option.some.injEq, Prod.mk.injEq] at e; obtain ⟨rfl, rfl, rfl⟩ := e
     simp only [Exit.inBlock, hid, if_false]
     exact ⟨rfl, ι₁, hle, H₁, F₁⟩
theorem Sim.loop {p : Code} {c : CCode} (hp : Sim P glb p c) : Sim P glb (.loop p) (.loop c) := by
 intro call hc n a h x a' h' e K ι A w hk H F r hr b k cs hro hbf hrm
 have key : ∀ (n : Nat) (a : Fr) (h : Heap), evCode call n (.loop c) a h = some (x, a', h') → ∀ (ι : Emb) (A : Act) (w : World), Inv K ι h w → FrR ι a A →
   ∃ e A' w', Post K ι x a' h' e A' w' ∧ ArrivesIn (Machine.fenced P (Wd r)) P (lone (b.atR A (.code p :: .inLoop p :: k)) cs w) b k cs e A' w' := by
  intro n
  induction n with
  | zero => intro a h e; simp [evCode] at e
  | succ n ih =>
   intro a h e ι A w H F
   simp only [evCode] at e
   cases h1 : evCode call n c a h with
   | none => simp [h1] at e
   | some r =>
    obtain ⟨y, a₁, h₁⟩ := r
    obtain ⟨e₁, A₁, w₁, ⟨hER, ι₁, hle, H₁, F₁⟩, harr⟩ := hp call hc n a h y a₁ h₁ h1 K ι A w hk H F r hr b (.inLoop p :: k) cs hro hbf hrm
    cases y with
    | normal =>
     simp only [h1] at e
     cases e₁ <;> simp only [ER] at hER
     obtain ⟨e₂, A₂, w₂, hq₂, harr₂⟩ := ih a₁ h₁ e ι₁ A₁ w₁ H₁ F₁
     exact ⟨e₂, A₂, w₂, hq₂.mono hle, .of_steps (StepsIn.trans harr (.one (fenced_wd P r _) stepR_inLoop)) harr₂⟩
    | exit id =>
     simp only [h1, Option.some.injEq, Prod.mk.injEq] at e; obtain ⟨rfl, rfl, rfl⟩ := e
     refine ⟨e₁, A₁, w₁, ⟨hER, ι₁, hle, H₁, F₁⟩, ?_⟩
     cases e₁ <;> simp only [ER] at hER
     exact .pass (x := .inLoop p) rfl (fun _ _ => .inl (by simp)) harr
    | ret =>
     simp only [h1, Option.some.injEq, Prod.mk.injEq] at e; obtain ⟨rfl, rfl, rfl⟩ := e
     refine ⟨e₁, A₁, w₁, ⟨hER, ι₁, hle, H₁, F₁⟩, ?_⟩
     cases e₁ <;> simp only [ER] at hER
     exact .pass (x := .inLoop p) rfl (fun _ _ => .inl (by simp)) harr
    | goto l =>
     simp only [h1, Option.some.injEq, Prod.mk.injEq] at e; obtain ⟨rfl, rfl, rfl⟩ := e
     refine ⟨e₁, A₁, w₁, ⟨hER, ι₁, hle, H₁, F₁⟩, ?_⟩
     cases e₁ <;> simp only [ER] at hER
     exact .pass (x := .inLoop p) rfl (fun _ _ => .inl (by simp)) harr
 obtain ⟨e₁, A₁, w₁, hq, harr⟩ := key n a h e ι A w H F
 exact ⟨e₁, A₁, w₁, hq, .of_steps (.one (fenced_wd P r _) stepR_loop) harr⟩
theorem Sim.goto {l : Nat} : Sim P glb (.goto l) (.goto l) := by
 intro call hc n a h x a' h' e K ι A w hk H F r hr
 cases n with
 | zero => simp [evCode] at e
 | succ n =>
  simp only [evCode, Option.some.injEq, Prod.mk.injEq] at e; obtain ⟨rfl, rfl, rfl⟩ := e
  exact wpIn_goto ⟨rfl, ι, Emb.le.refl _, H, F⟩
theorem stepR_scope {P : Program} {b : Frame} {a : Act} {k : List Item} {cs : List Frame} {w : World} {c : Code} : step P (lone (b.atR a (.code (.scope c) :: k)) cs w) = .next (lone (b.atR a (.code c :: .inScope c :: k)) cs w) :=
 step_lone_go (by simp [stepG, stepG.exec, Frame.atR])
theorem stepR_inScope {P : Program} {b : Frame} {a : Act} {k : List Item} {cs : List Frame} {w : World} {c : Code} : step P (lone (b.atR a (.inScope c :: k)) cs w) = .next (lone (b.atR a k) cs w) :=
 step_lone_go (by simp [stepG, stepG.exec, Frame.atR])
theorem Sim.scope {p : Code} {c : CCode} {rests : List (Nat × CCode)} (hp : Sim P glb p c) (hfl : ∀ l r, findRest l rests = some r → ∃ q, findLabel p l = some q ∧ Sim P glb q r) : Sim P glb (.scope p) (.scope c rests) := by
 intro call hc n a h x a' h' e K ι A w hk H F r hr b k cs hro hbf hrm
 have key : ∀ (n : Nat) (q : Code) (rc : CCode), Sim P glb q rc → (r.isSome = true → noDef q = true) → ∀ (a : Fr) (h : Heap), evCode call n (.scope rc rests) a h = some (x, a', h') → ∀ (ι : Emb) (A : Act) (w : World), Inv K ι h w → FrR ι a A →
   ∃ e A' w', Post K ι x a' h' e A' w' ∧ ArrivesIn (Machine.fenced P (Wd r)) P (lone (b.atR A (.code q :: .inScope p :: k)) cs w) b k cs e A' w' := by
  intro n
  induction n with
  | zero => intro q rc _ _ a h e; simp [evCode] at e
  | succ n ih =>
   intro q rc hq hqd a h e ι A w H F
   simp only [evCode] at e
   cases h1 : evCode call n rc a h with
   | none => simp [h1] at e
   | some rr =>
    obtain ⟨y, a₁, h₁⟩ := rr
    obtain ⟨e₁, A₁, w₁, ⟨hER, ι₁, hle, H₁, F₁⟩, harr⟩ := hq call hc n a h y a₁ h₁ h1 K ι A w hk H F r hqd b (.inScope p :: k) cs hro hbf hrm
    cases y with
    | normal =>
     simp only [h1, Option.some.injEq, Prod.mk.injEq] at e; obtain ⟨rfl, rfl, rfl⟩ := e
     cases e₁ <;> simp only [ER] at hER
     exact ⟨.normal, A₁, w₁, ⟨trivial, ι₁, hle, H₁, F₁⟩, StepsIn.trans harr (.one (fenced_wd P r _) stepR_inScope)⟩
    | exit id =>
     simp only [h1, Option.some.injEq, Prod.mk.injEq] at e; obtain ⟨rfl, rfl, rfl⟩ := e
     cases e₁ <;> simp only [ER] at hER
     exact ⟨.exit _, A₁, w₁, ⟨hER, ι₁, hle, H₁, F₁⟩, fun k' hk => harr.1 k' (by simp [exitTo, hk]), fun hs hk => harr.2 hs (by simp [exitTo, hk])⟩
    | ret =>
     simp only [h1, Option.some.injEq, Prod.mk.injEq] at e; obtain ⟨rfl, rfl, rfl⟩ := e
     cases e₁ <;> simp only [ER] at hER
     exact ⟨.ret, A₁, w₁, ⟨trivial, ι₁, hle, H₁, F₁⟩, harr⟩
    | goto l =>
     simp only [h1] at e
     split at e
     ·next r₂ hr₂ =>
      cases e₁ <;> simp only [ER] at hER
      subst hER
      obtain ⟨q₂, hf, hq₂⟩ := hfl _ _ hr₂
      have hg : gotoIn l (.inScope p :: k) = some (.code q₂ :: .inScope p :: k) := by simp [gotoIn, hf]
      obtain ⟨e₂, A₂, w₂, hp₂, harr₂⟩ := ih q₂ r₂ hq₂ (fun z => noDef_label hf (hr z)) a₁ h₁ e ι₁ A₁ w₁ H₁ F₁
      exact ⟨e₂, A₂, w₂, hp₂.mono hle, .of_steps (harr.1 _ hg) harr₂⟩
     ·simp at e
 obtain ⟨e₁, A₁, w₁, hq, harr⟩ := key n p c hp hr a h e ι A w H F
 exact ⟨e₁, A₁, w₁, hq, .of_steps (.one (fenced_wd P r _) stepR_scope) harr⟩
theorem noDefO_at {ops : Array Oper} (h : noDefO ops = true) {i : Nat} {o : Oper} (ho : ops[i]? = some o) : ∀ c, o.op ≠ .defer c := fun c hc => by
 have hm : o ∈ ops.toList := Array.mem_toList_iff.2 (Array.mem_of_getElem? ho)
 have := List.all_eq_true.1 h o hm
 rw [hc] at this; simp at this
theorem semAt_wd {o : Oper} {A : Act} {r : Option Nat} (h : r.isSome = true → ∀ c, o.op ≠ .defer c) : o.semAt r A.eval = execOp A.eval o := by
 cases r with
 | none => rfl
 | some l => exact Oper.semAt_eq _ _ _ (h rfl)
theorem ops_sim (hc : CallOk P glb call) {ops : Array Oper} {K : Ctx} (hk : K.glb = glb) {ι₀ : Emb} {a' : Fr} {h' : Heap} {r : Option Nat} (hr : r.isSome = true → noDefO ops = true) :
  ∀ (is : List Nat) (cs : List COper), (∀ (j : Nat) (c : COper), cs[j]? = some c → ∃ i o, is[j]? = some i ∧ ops[i]? = some o ∧ CoperR P glb ops o c) → is.length = cs.length →
  ∀ (a : Fr) (h : Heap), evOps call cs a h = some (a', h') → ∀ (ι : Emb) (A : Act) (w : World), ι₀.le ι → Inv K ι h w → FrR ι a A → wpOpsIn (Wd r) 0 P ops (Post K ι₀ .normal a' h') is A w
 | [], [], _, _ => fun a h e ι A w hle H F => by
  simp only [evOps, Option.some.injEq, Prod.mk.injEq] at e; obtain ⟨rfl, rfl⟩ := e
  exact ⟨trivial, ι, hle, H, F⟩
 | i :: is, c :: cs, hR, hl => fun a h e ι A w hle H F => by
  simp only [evOps] at e
  obtain ⟨i', o, h1, h2, R⟩ := hR 0 c rfl
  simp only [List.getElem?_cons_zero, Option.some.injEq] at h1
  subst h1
  split at e
  ·next a₁ h₁ he =>
   rw [wpOpsIn_cons]
   refine oper_sim hc R he hk H F (fun ι₁ A₁ w₁ hle₁ H₁ F₁ => ?_) h2 (fun z => noDefO_at (hr z) h2)
   exact ops_sim hc hk hr is cs (fun j c hj => by
    obtain ⟨i', o, h1, h2, R⟩ := hR (j + 1) c (by simpa using hj)
    exact ⟨i', o, by simpa using h1, h2, R⟩) (by simpa using hl) _ _ e _ _ _ (hle.trans hle₁) H₁ F₁
  ·simp at e
 | [], _ :: _, _, hl => by simp at hl
 | _ :: _, [], _, hl => by simp at hl
def OpersR (P : Program) (glb : Gl) (ops : Array Oper) (cs : List COper) : Prop :=
 cs.length = ops.size ∧ ∀ (j : Nat) (c : COper), cs[j]? = some c → ∃ o, ops[j]? = some o ∧ CoperR P glb ops o c
theorem Sim.region {id : Nat} {ops : Array Oper} {cs : List COper} (R : OpersR P glb ops cs) : Sim P glb (.region id ops false) (.region cs) := by
 intro call hc n a h x a' h' e K ι A w hk H F r hr
 cases n with
 | zero => simp [evCode] at e
 | succ n =>
  simp only [evCode] at e
  split at e
  ·next a₁ h₁ he =>
   simp only [Option.some.injEq, Prod.mk.injEq] at e; obtain ⟨rfl, rfl, rfl⟩ := e
   refine wpIn_region (ops_sim hc hk hr (List.range ops.size) cs (fun j c hj => ?_) (by simp [R.1]) _ _ he _ _ _ (Emb.le.refl _) H F)
   obtain ⟨o, h1, h2⟩ := R.2 j c hj
   have hlt : j < ops.size := (Array.getElem?_eq_some_iff.1 h1).1
   exact ⟨j, o, by simp [hlt], h1, h2⟩
  ·simp at e
def CRVR (P : Program) : ResultVar → CRV → Prop
 | .tmp t, .tmp t' => t = t'
 | .cell a ty, .cell a' agg n => a = a' ∧ tyAgg P ty = some agg ∧ tySize P ty = some n
 | _, _ => False
def resSem (tmps : Array Value) : ResultVar → Sem Value
 | .tmp t => pure (tmps.getD t undef)
 | .cell a t => do loadVar t (← asAddr (tmps.getD a undef))
theorem resC_sim {K : Ctx} {ι : Emb} {h : Heap} {w : World} (H : Inv K ι h w) {a : Fr} {A : Act} (F : FrR ι a A) {r : ResultVar} {c : CRV} (R : CRVR P r c) {v : CVal} (e : resC a.tmps h c = some v) :
  ∃ v', (resSem A.tmps r).run P w = .ok v' w ∧ VR ι v v' := by
 cases r with
 | tmp t =>
  cases c with
  | tmp t' =>
   obtain rfl : t = t' := R
   simp only [resC, Option.some.injEq] at e; subst e
   exact ⟨_, by simp [resSem], F.tmps.tmp t⟩
  | cell => exact R.elim
 | cell t ty =>
  cases c with
  | tmp => exact R.elim
  | cell t' agg n =>
   obtain ⟨rfl, hag, hn⟩ := R
   simp only [resC] at e
   split at e
   ·next v₁ h₁ he =>
    simp only [Option.some.injEq] at e; subst e
    have hv : VR ι ((CX.t t).ev a.tmps) (A.tmps.getD t undef) := F.tmps.tmp t
    simp only [cop] at he
    split at he
    ·next i off hev =>
     rw [hev] at hv
     generalize hX : A.tmps.getD t undef = X' at hv
     cases hv with
     | ptr _ _ b β ex hi =>
      split at he
      ·next vs wr opn hget =>
       cases agg with
       | true =>
        simp at he
        obtain ⟨hl, rfl, rfl⟩ := he
        obtain ⟨us', hrun, R⟩ := H.loads (P := P) (n := n) hget rfl (by simpa using hl) hi
        have hrun : (loadCells ⟨b, β + off, none⟩ n).run P w = .ok us' w := hrun w.drawn
        refine ⟨.agg us', ?_, .agg _ _ R⟩
        simp [resSem, hX, asAddr, loadVar, tyAgg_run hag, tySize_run hn, hrun, Result.andThen]
       | false =>
        simp at he
        split at he
        ·next v hv =>
         simp at he; obtain ⟨rfl, rfl⟩ := he
         obtain ⟨v', hc, hv'⟩ := H.load hget hv hi
         refine ⟨v', ?_, hv'⟩
         simp [resSem, hX, asAddr, loadVar, tyAgg_run hag, run_load hc, Result.andThen]
        ·simp at he
      ·simp at he
    ·simp at he
   ·simp at e
inductive CRVRs (P : Program) : List ResultVar → List CRV → Prop
 | nil : CRVRs P [] []
 | cons {r rs c cs} : CRVR P r c → CRVRs P rs cs → CRVRs P (r :: rs) (c :: cs)
theorem resultsC_sim {K : Ctx} {ι : Emb} {h : Heap} {w : World} (H : Inv K ι h w) {a : Fr} {A : Act} (F : FrR ι a A) : ∀ {rs : List ResultVar} {cs : List CRV}, CRVRs P rs cs → ∀ {vs : List CVal}, resultsC a.tmps h cs = some vs →
  ∃ vs', (rs.mapM (resSem A.tmps)).run P w = .ok vs' w ∧ VRs ι vs vs'
 | _, _, .nil, vs, e => by simp only [resultsC, Option.some.injEq] at e; subst e; exact ⟨[], by simp, .nil⟩
 | _, _, .cons R Rs, vs, e => by
  simp only [resultsC] at e
  split at e
  ·next v vs₁ h1 h2 =>
   simp only [Option.some.injEq] at e; subst e
   obtain ⟨v', r1, q1⟩ := resC_sim H F R h1
   obtain ⟨vs', r2, q2⟩ := resultsC_sim H F Rs h2
   exact ⟨v' :: vs', by simp [r1, r2, Result.andThen], .cons _ _ _ _ q1 q2⟩
  ·simp at e
theorem results_sim {K : Ctx} {ι : Emb} {h : Heap} {w : World} (H : Inv K ι h w) {a : Fr} {A : Act} (F : FrR ι a A) {fn : Func} {cs : List CRV} (R : CRVRs P fn.results.toList cs) {vs : List CVal} (e : resultsC a.tmps h cs = some vs) :
  ∃ v', (results fn A.tmps).run P w = .ok v' w ∧ VR ι (packC vs) v' := by
 obtain ⟨vs', r, q⟩ := resultsC_sim H F R e
 have hm : fn.results.mapM (resSem A.tmps) = List.toArray <$> fn.results.toList.mapM (resSem A.tmps) := Array.mapM_eq_mapM_toList
 have hr : results fn A.tmps = (do let vs ← fn.results.mapM (resSem A.tmps); pure (if h : vs.size = 1 then vs[0] else .tuple vs)) := rfl
 refine ⟨if h : vs'.toArray.size = 1 then vs'.toArray[0] else .tuple vs'.toArray, ?_, ?_⟩
 ·rw [hr, hm]
  simp [r, Result.andThen]
 ·cases q with
  | nil => exact .tuple _ _ .nil
  | cons v vs v' vs' q1 q2 =>
   cases q2 with
   | nil => simpa [packC] using q1
   | cons u us u' us' q3 q4 =>
    simp [packC]
    exact .tuple _ _ (.cons _ _ _ _ q1 (.cons _ _ _ _ q3 q4))
theorem frame_sim {ι : Emb} {fn : Func} {cf : CFunc} (hn : cf.ntmps = fn.ntmps) {args : List CVal} {args' : Array Value} (R : VRs ι args args'.toList) :
  FrR ι (frame₀ cf args) { tmps := args' ++ Array.replicate (fn.ntmps - args'.size) undef, defers := [] } := by
 refine ⟨?_, trivial⟩
 have hl := R.length
 simp only [Array.length_toList] at hl
 simp only [frame₀, Array.toList_append, Array.toList_replicate, hn, hl]
 refine R.append ?_
 generalize fn.ntmps - args'.size = k
 induction k with
 | zero => exact .nil
 | succ k ih => exact .cons _ _ _ _ (VR.un ι) ih
structure FuncR (P : Program) (glb : Gl) (f : FuncId) (cf : CFunc) : Prop where
 ex : ∃ fn code, P.funcs[f]? = some fn ∧ fn.body = some code ∧ (fn.name == "runtime.NumGoroutine") = false ∧ cf.ntmps = fn.ntmps ∧ CRVRs P fn.results.toList cf.results ∧ Sim P glb code cf.code
theorem FuncR.body {f : FuncId} {cf : CFunc} (R : FuncR P glb f cf) : HasBody P f := by
 obtain ⟨fn, code, h1, h2, h3, h4⟩ := R.ex
 exact ⟨fn, h1, by simp [h2], h3⟩
theorem Inv.blk {K : Ctx} {ι : Emb} {h : Heap} {w : World} (H : Inv K ι h w) {b : Nat} (hb : ∀ i o β e, h.get i = some o → ι i = some (b, β, e) → False) (hB : ¬ K.F b) (w' : World)
  (hos : w'.os = w.os) (ht : w'.tape = w.tape) (hout : w'.output = w.output) (hsz : w'.heap.size = w.heap.size) (hblk : ∀ k, k ≠ b → w'.heap[k]? = w.heap[k]?) : Inv K ι h w' := by
 refine ⟨H.hF, ⟨hos.trans H.keep.os, ht.trans H.keep.tape, hout.trans H.keep.output, by rw [hsz]; exact H.keep.size, fun k hk => by rw [hblk k (fun e1 => hB (e1 ▸ hk))]; exact H.keep.block k hk⟩, H.glob, fun i o hi => ?_, H.excl, H.fresh, fun i b' β e hi => by rw [hsz]; exact H.inb _ _ _ _ hi, H.hG, H.hid, H.nev, H.nul⟩
 obtain ⟨b1, β1, e1, h1, _, _⟩ := (H.obj i o hi).blk
 exact (H.obj i o hi).mono (Emb.le.refl _) fun b' β' e' hb' => hblk b' fun q => hb i o β' e' hi (q ▸ hb')
theorem Inv.shut {K : Ctx} {ι : Emb} {h : Heap} {w : World} (H : Inv K ι h w) {i : Nat} (hi : h.get i = some .dfr) {b β e : Nat} (hb : ι i = some (b, β, e)) :
  (Instr.takeDeferred b).run P w = .ok [] (w.putObj b (.deferred none)) ∧ Inv K ι (h.kill i) (w.putObj b (.deferred none)) := by
 obtain ⟨b', e', h1, h2, h3⟩ := H.obj i _ hi
 rw [hb] at h1; simp only [Option.some.injEq, Prod.mk.injEq] at h1; obtain ⟨rfl, rfl, rfl⟩ := h1
 refine ⟨run_takeDeferred h2, (H.kill i).blk (b := b) (fun j o β2 e2 hj hb2 => ?_) h3 _ rfl rfl rfl (by simp) fun k hk => World.putObj_heap_other hk⟩
 rw [Heap.get_kill] at hj
 split at hj
 ·simp at hj
 ·next hne => exact H.excl i j .dfr o b 0 e b β2 e2 (Ne.symm hne) hi hj rfl hb hb2 rfl
theorem leaves_sim {calld : CallFn} (hd : CalldOk P glb calld) {K : Ctx} (hk : K.glb = glb) {fn : Func} {ι₀ : Emb} {a : Fr} {A : Act} {cs : List CRV} (Rr : CRVRs P fn.results.toList cs) {h'' : Heap} {vs : List CVal}
  (er : resultsC a.tmps h'' cs = some vs) : ∀ (xs : List (FuncId × List CVal)) (ds : List Deferred) {ι : Emb} {h : Heap} {w : World}, ι₀.le ι → Inv K ι h w → VRs ι a.tmps A.tmps.toList → DRs ι xs ds → runDefers calld xs h = some h'' →
  LeavesInM (Wd none) 0 P fn A.tmps (fun e w' => ∃ ι' v', ι₀.le ι' ∧ e = .returned v' ∧ Inv K ι' h'' w' ∧ VR ι' (packC vs) v') ds .returning w
 | [], [], ι, h, w, hle, H, Ft, _, e => by
  simp only [runDefers, Option.some.injEq] at e; subst e
  obtain ⟨v', h1, h2⟩ := results_sim H (a := { a with defers := [] }) (A := { A with defers := [] }) ⟨Ft, trivial⟩ Rr er
  exact ⟨v', h1, ι, v', hle, rfl, H, h2⟩
 | x :: xs, d :: ds, ι, h, w, hle, H, Ft, ⟨D, Rs⟩, e => by
  simp only [runDefers] at e
  unfold DR at D
  refine ⟨by simp, ?_⟩
  split at e
  ·next i hm =>
   rw [hm] at D
   obtain ⟨b, ex, hi, ht⟩ := D
   split at e
   ·next hg =>
    obtain ⟨hr, H'⟩ := H.shut (P := P) hg hi
    exact .inl ⟨b, _, ht, hr, leaves_sim hd hk Rr er xs ds hle H' Ft Rs e⟩
   ·simp at e
  ·next hm =>
   rw [hm] at D
   obtain ⟨cap, ht, R⟩ := D
   obtain ⟨t, as⟩ := d
   simp only at ht R
   subst ht
   split at e
   ·next v h₁ he =>
    obtain ⟨fn', h1, h2, h3⟩ := hd.body _ _ _ _ he
    refine .inr ⟨fun q => by simp at q, _, _, x.1, as ++ cap, rfl, ?_, fun _ _ => trivial, ?_⟩
    ·have h3' : fn'.name ≠ "runtime.NumGoroutine" := by simpa using h3
     have hb2 : fn'.body ≠ none := by intro hq; rw [hq] at h2; simp at h2
     simp [invoke, callFunc, h1, h3', hb2]
    ·refine (hd.calls K ι h w x.1 x.2 (as ++ cap) v h₁ hk H R he).mono ?_
     rintro e' u' w' ⟨rfl, ι', v', hle', rfl, H'⟩
     exact leaves_sim hd hk Rr er xs ds (hle.trans hle') H' (Ft.mono hle') (Rs.mono hle') e
   ·simp at e
 | [], _ :: _, _, _, _, _, _, _, hh, _ => hh.elim
 | _ :: _, [], _, _, _, _, _, _, hh, _ => hh.elim
theorem body_sim (hc : CallOk P glb call) {calld : CallFn} (hd : CalldOk P glb calld) {f : FuncId} {cf : CFunc} (R : FuncR P glb f cf) {K : Ctx} (hk : K.glb = glb) {ι : Emb} {h : Heap} {w : World} (H : Inv K ι h w)
  {args : List CVal} {args' : Array Value} (Ra : VRs ι args args'.toList) {n : Nat} {v : CVal} {h' : Heap} (e : evBody call calld n cf args h = some (v, h')) :
  Calls P f args' w fun e w' => ∃ ι' v', ι.le ι' ∧ e = .returned v' ∧ Inv K ι' h' w' ∧ VR ι' v v' := by
 obtain ⟨fn, code, h1, h2, h3, h4, h5, h6⟩ := R.ex
 refine (callsIn_wd (r := none) (n := 0)).1 (callsIn_of_wp_marks h1 h2 trivial ?_)
 unfold evBody at e
 split at e
 ·simp at e
 ·simp at e
 ·next x a h₁ hx hx' he =>
  split at e
  ·next h₂ hdf =>
   split at e
   ·next vs hvs =>
    simp only [Option.some.injEq, Prod.mk.injEq] at e; obtain ⟨rfl, rfl⟩ := e
    refine wpIn_mono (h6 call hc n _ h x a h₁ he K ι _ w hk H (frame_sim h4 Ra) none (by simp)) ?_
    rintro e₁ A₁ w₁ ⟨hER, ι₁, hle, H₁, F₁⟩
    have fin := leaves_sim hd hk h5 hvs a.defers A₁.defers hle H₁ F₁.tmps F₁.defers hdf
    cases x with
    | normal => cases e₁ <;> simp only [ER] at hER; exact fin
    | ret => cases e₁ <;> simp only [ER] at hER; exact fin
    | exit id => exact (hx _ rfl).elim
    | goto l => exact (hx' _ rfl).elim
   ·simp at e
  ·simp at e
 ·simp at e
theorem wpSIn_mono {F : Fence} {n : Nat} {P : Program} {c : Code} {Q Q' : Exit → Act → List Frame → World → Prop} {a : Act} {cs : List Frame} {w : World} (h : c.wpSIn F n P Q a cs w) (hq : ∀ e a cs w, Q e a cs w → Q' e a cs w) : c.wpSIn F n P Q' a cs w :=
 fun b k h1 h2 h3 h4 => let ⟨e, a', cs', w', l, q, r⟩ := h b k h1 h2 h3 h4; ⟨e, a', cs', w', l, hq _ _ _ _ q, r⟩
def SimS (P : Program) (glb : Gl) (code : Code) (c : CCode) : Prop :=
 ∀ (call : CallFn), CallOk P glb call → ∀ (n : Nat) (a : Fr) (h : Heap) (x : CExit) (a' : Fr) (h' : Heap), evCode call n c a h = some (x, a', h') →
  ∀ (K : Ctx) (ι : Emb) (A : Act) (w : World), K.glb = glb → Inv K ι h w → FrR ι a A → ∀ cs : List Frame, recoverD cs = none → code.wpSIn (Wd none) 0 P (fun e A' cs' w' => cs' = cs ∧ Post K ι x a' h' e A' w') A cs w
theorem Sim.simS {code : Code} {c : CCode} (S : Sim P glb code c) : SimS P glb code c := by
 intro call hc n a h x a' h' e K ι A w hk H F cs _
 exact wpSIn_of_wpIn rfl (wpIn_mono (S call hc n a h x a' h' e K ι A w hk H F none (by simp)) fun _ _ _ q => ⟨rfl, q⟩)
theorem SimS.seq {p q : Code} {c d : CCode} (hp : SimS P glb p c) (hq : SimS P glb q d) : SimS P glb (.seq p q) (.seq c d) := by
 intro call hc n a h x a' h' e K ι A w hk H F cs hcs
 cases n with
 | zero => simp [evCode] at e
 | succ n =>
  simp only [evCode] at e
  cases h1 : evCode call n c a h with
  | none => simp [h1] at e
  | some r =>
   obtain ⟨y, a₁, h₁⟩ := r
   refine wpSIn_seq (wpSIn_mono (hp call hc n a h y a₁ h₁ h1 K ι A w hk H F cs hcs) ?_)
   rintro e₁ A₁ cs₁ w₁ ⟨rfl, hER, ι₁, hle, H₁, F₁⟩
   cases y with
   | normal =>
    simp only [h1] at e
    cases e₁ <;> simp only [ER] at hER
    exact wpSIn_mono (hq call hc n a₁ h₁ x a' h' e K ι₁ A₁ w₁ hk H₁ F₁ cs₁ hcs) fun _ _ _ _ q => ⟨q.1, Post.mono hle q.2⟩
   | exit id =>
    simp only [h1, Option.some.injEq, Prod.mk.injEq] at e; obtain ⟨rfl, rfl, rfl⟩ := e
    cases e₁ <;> simp only [ER] at hER
    exact ⟨rfl, hER, ι₁, hle, H₁, F₁⟩
   | ret =>
    simp only [h1, Option.some.injEq, Prod.mk.injEq] at e; obtain ⟨rfl, rfl, rfl⟩ := e
    cases e₁ <;> simp only [ER] at hER
    exact ⟨rfl, trivial, ι₁, hle, H₁, F₁⟩
   | goto l =>
    simp only [h1, Option.some.injEq, Prod.mk.injEq] at e; obtain ⟨rfl, rfl, rfl⟩ := e
    cases e₁ <;> simp only [ER] at hER
    exact ⟨rfl, hER, ι₁, hle, H₁, F₁⟩
def isRecover (o : Oper) : Bool := match o.op, o.guard with
 | .call { callee := .builtin .recover, .. }, none => true
 | _, _ => false
theorem recover_run {o : Oper} (h : isRecover o = true) (ρ : Operand → Value) (P : Program) (w : World) : o.guard = none ∧ (execOp ρ o).run P w = .ok .recover w := by
 unfold isRecover at h
 split at h
 ·next ho hg => exact ⟨hg, by simp [execOp, ho, resolve, invoke, builtin]⟩
 ·simp at h
theorem SimS.region {id : Nat} {ops : Array Oper} {o : Oper} {cs : List COper} (h0 : ops[0]? = some o) (hop : isRecover o = true) (hl : cs.length + 1 = ops.size) (R : ∀ j c, cs[j]? = some c → ∃ o, ops[j + 1]? = some o ∧ CoperR P glb ops o c) :
  SimS P glb (.region id ops false) (.region (⟨o.dst, .move (.c .nilIface), none⟩ :: cs)) := by
 intro call hc n a h x a' h' e K ι A w hk H F fs hfs
 cases n with
 | zero => simp [evCode] at e
 | succ n =>
  simp only [evCode] at e
  split at e
  ·next a₁ h₁ he =>
   simp only [Option.some.injEq, Prod.mk.injEq] at e; obtain ⟨rfl, rfl, rfl⟩ := e
   simp only [evOps, evOper, evOp1, wantC, cop, CX.ev] at he
   obtain ⟨hg, hrun⟩ := recover_run hop A.eval P w
   have hw : Region.wanted o (yielded ops A.tmps) = true := by simp [Region.wanted, hg]
   have F' : FrR ι (a.done o.dst .nilIface []) (A.put o.dst .nilIface) := FrR.put (a := a) (A := A) F .nilIface _
   have hrest := ops_sim (r := none) hc hk (by simp) ((List.range cs.length).map (· + 1)) cs (fun j c hj => by
    obtain ⟨o', h1, h2⟩ := R j c hj
    have hlt : j < cs.length := (List.getElem?_eq_some_iff.1 hj).1
    exact ⟨j + 1, o', by simp [hlt], h1, h2⟩) (by simp) _ _ he ι _ w (Emb.le.refl _) H F'
   intro b k hb hro hF hroom
   obtain ⟨e₁, A₁, w₁, hq, harr⟩ := wp_opsIn _ _ _ hrest b k fs hro hF hroom
   have hr : List.range ops.size = 0 :: (List.range cs.length).map (· + 1) := by rw [← hl, List.range_succ_eq_map]
   have i0 : (lone (b.atR A (.inRegion ops (0 :: (List.range cs.length).map (· + 1)) :: k)) fs w).fenced P (Wd none) := fenced_oper hF hroom h0 (fun _ _ => trivial)
   have hgo := stepGR_op (P := P) (b := b) (k := k) (cs := fs) (w := w) (rest := (List.range cs.length).map (· + 1)) h0 hw
   rw [hro, Oper.semAt_none] at hgo
   have hfin : ∀ v, (b.atR A (.inRegion ops (0 :: (List.range cs.length).map (· + 1)) :: k)).finish v = b.atR (A.put o.dst v) (.inRegion ops ((List.range cs.length).map (· + 1)) :: k) := by
    intro v; rw [Frame.finish_atR, h0]; rfl
   have hkd : (b.atR A (.inRegion ops (0 :: (List.range cs.length).map (· + 1)) :: k)).kind = .deferred := hb
   have htr := tryRecover_deferred hkd fs
   refine ⟨e₁, A₁, fs, w₁, rfl, ⟨rfl, hq⟩, .of_steps (.one (fenced_calm hF hroom rfl) stepR_region) (.of_steps (.one (by rw [hr]; exact i0) (step_lone_go ?_)) harr)⟩
   rw [hr, hgo, ← hfin]
   simp only [Frame.atR, hro] at htr ⊢
   simp [stepG.apply, hrun, htr, hfs]
  ·simp at e
structure FuncRD (P : Program) (glb : Gl) (f : FuncId) (cf : CFunc) : Prop where
 ex : ∃ fn code, P.funcs[f]? = some fn ∧ fn.body = some code ∧ (fn.name == "runtime.NumGoroutine") = false ∧ cf.ntmps = fn.ntmps ∧ CRVRs P fn.results.toList cf.results ∧ SimS P glb code cf.code
theorem FuncRD.body {f : FuncId} {cf : CFunc} (R : FuncRD P glb f cf) : HasBody P f := by
 obtain ⟨fn, code, h1, h2, h3, h4⟩ := R.ex
 exact ⟨fn, h1, by simp [h2], h3⟩
theorem FuncR.deferred {f : FuncId} {cf : CFunc} (R : FuncR P glb f cf) : FuncRD P glb f cf := by
 obtain ⟨fn, code, h1, h2, h3, h4, h5, h6⟩ := R.ex
 exact ⟨fn, code, h1, h2, h3, h4, h5, h6.simS⟩
theorem bodyD_sim (hc : CallOk P glb call) {f : FuncId} {cf : CFunc} (R : FuncRD P glb f cf) {K : Ctx} (hk : K.glb = glb) {ι : Emb} {h : Heap} {w : World} (H : Inv K ι h w)
  {args : List CVal} {args' : Array Value} (Ra : VRs ι args args'.toList) {n : Nat} {v : CVal} {h' : Heap} (e : evBodyD call n cf args h = some (v, h')) :
  CallsDIn (Wd none) 0 P f args' .returning w fun e u' w' => u' = .returning ∧ ∃ ι' v', ι.le ι' ∧ e = .returned v' ∧ Inv K ι' h' w' := by
 obtain ⟨fn, code, h1, h2, h3, h4, h5, h6⟩ := R.ex
 refine callsDIn_of_wpSIn h1 h2 trivial fun c₀ fs hm => ?_
 unfold evBodyD at e
 split at e
 ·simp at e
 ·simp at e
 ·next x a h₁ hx hx' he =>
  split at e
  ·next hdf =>
   split at e
   ·next vs hvs =>
    simp only [Option.some.injEq, Prod.mk.injEq] at e; obtain ⟨rfl, rfl⟩ := e
    refine wpSIn_mono (h6 call hc n _ h x a h₁ he K ι _ w hk H (frame_sim h4 Ra) (c₀ :: fs) (by simp [recoverD, hm])) ?_
    rintro e₁ A₁ cs₁ w₁ ⟨rfl, hER, ι₁, hle, H₁, F₁⟩
    have hA : A₁.defers = [] := by
     have := F₁.defers
     rw [hdf] at this
     cases hq : A₁.defers with
     | nil => rfl
     | cons d ds => rw [hq] at this; exact this.elim
    obtain ⟨v', hr, hv⟩ := results_sim H₁ F₁ h5 hvs
    have fin : A₁.defers = [] ∧ ∃ u', c₀ :: fs = { c₀ with mode := u' } :: fs ∧ ∃ v, (results fn A₁.tmps).run P w₁ = .ok v w₁ ∧ (u' = .returning ∧ ∃ ι' v', ι.le ι' ∧ Ending.returned v = .returned v' ∧ Inv K ι' h₁ w₁) :=
     ⟨hA, .returning, by rw [← hm], v', hr, rfl, ι₁, v', hle, rfl, H₁⟩
    cases x with
    | normal => cases e₁ <;> simp only [ER] at hER; exact fin
    | ret => cases e₁ <;> simp only [ER] at hER; exact fin
    | exit id => exact (hx _ rfl).elim
    | goto l => exact (hx' _ rfl).elim
   ·simp at e
  ·simp at e
 ·simp at e
theorem CObj.loopR {K : Ctx} {ι : Emb} {h : Heap} {w : World} (H : Inv K ι h w) {i : Nat} {st : LoopState} {pend : Option CJ} {fn k np : Nat} {tmps : List CVal} {d : Nat} (hg : h.get i = some (.loop st pend fn k np tmps d)) {l β e : Nat} (hi : ι i = some (l, β, e)) :
  β = 0 ∧ ∃ (r : Loop) (bd ed : Nat), w.heap[l]? = some (.loop r) ∧ ¬ K.F l ∧ K.glb.mod fn k = some (r.params, r.assign, r.body) ∧ r.params.size = np ∧ r.state = st ∧ r.pending = pend.map CJ.code ∧ VRs ι tmps r.tmps.toList ∧ ι d = some (bd, 0, ed) ∧ r.defers = bd := by
 obtain ⟨b, e', r, bd, ed, h1, h2⟩ := H.obj i _ hg
 rw [hi] at h1; simp only [Option.some.injEq, Prod.mk.injEq] at h1; obtain ⟨rfl, rfl, rfl⟩ := h1
 exact ⟨rfl, r, bd, ed, h2⟩
theorem Inv.setLoop {K : Ctx} {ι : Emb} {h : Heap} {w : World} (H : Inv K ι h w) {i : Nat} {st : LoopState} {pend : Option CJ} {fn k np : Nat} {tmps : List CVal} {d : Nat} (hg : h.get i = some (.loop st pend fn k np tmps d)) {l β e : Nat} (hi : ι i = some (l, β, e))
  {r : Loop} (hr : w.heap[l]? = some (.loop r)) (st' : LoopState) (pend' : Option CJ) : Inv K ι (h.set i (.loop st' pend' fn k np tmps d)) (w.putObj l (.loop { r with state := st', pending := pend'.map CJ.code })) := by
 obtain ⟨rfl, r', bd, ed, q1, q2, q3, q4, q5, q6, q7, q8, q9⟩ := CObj.loopR H hg hi
 rw [hr] at q1; simp only [Option.some.injEq, Obj.loop.injEq] at q1; subst q1
 refine H.turn (o' := .loop st' pend' fn k np tmps d) hg rfl hi _ rfl rfl rfl (by simp) (fun j hj => World.putObj_heap_other hj) ?_
 exact ⟨l, e, _, bd, ed, hi, World.putObj_heap_same (Array.getElem?_eq_some_iff.1 hr).1, q2, q3, q4, rfl, rfl, q7, q8, q9⟩
theorem sets_sim {ι : Emb} : ∀ (ps : List Nat) (as : List CVal) (as' : List Value) (a : List CVal) (A : Array Value), VRs ι as as' → VRs ι a A.toList →
  VRs ι (setsC a ps as) ((ps.zip as').foldl (fun (tmps : Array Value) (x : Nat × Value) => tmps.setIfInBounds x.1 x.2) A).toList
 | [], _, _, a, A, _, h => by simpa [setsC] using h
 | p :: ps, [], _, a, A, .nil, h => by simpa [setsC] using h
 | p :: ps, v :: as, _, a, A, .cons _ _ v' as' hv hs, h => by
  simp only [setsC, List.zip_cons_cons, List.foldl_cons]
  exact sets_sim ps as as' (a.set p v) (A.setIfInBounds p v') hs (by simpa using h.set hv p)
structure RoundCR (P : Program) (glb : Gl) (fn k : Nat) (rc : RoundC) : Prop where
 ex : ∃ ps asg body, glb.mod fn k = some (ps, asg, body) ∧ rc.params = ps.toList ∧ noDef asg = true ∧ noDef body = true ∧ Sim P glb asg rc.asg ∧ Sim P glb body rc.body
theorem round_sim (hc : CallOk P glb call) {rcs : Nat → Nat → Option RoundC} (hR : ∀ fn k rc, rcs fn k = some rc → RoundCR P glb fn k rc) {K : Ctx} (hk : K.glb = glb) {ι : Emb} {h : Heap} {w : World} (H : Inv K ι h w) {n i : Nat} {args : List CVal} {l : Nat} {f : FuncId} {tmps : Array Value} {asg body : Code}
  (q : RoundR ι w i args (.round l f tmps asg body)) {v : CVal} {h' : Heap} (e : evRound call n rcs i args h = some (v, h')) :
  RoundIn (Wd none) 0 P l f tmps asg body w fun e w' => ∃ ι' v', ι.le ι' ∧ e = .returned v' ∧ Inv K ι' h' w' ∧ VR ι' v v' := by
 obtain ⟨l', β, ex, r, args', q1, q2, q3, q4, q5⟩ := q
 simp only [Next.round.injEq] at q5
 obtain ⟨rfl, rfl, rfl, rfl, rfl⟩ := q5
 unfold evRound at e
 split at e <;> try (simp at e; done)
 next st pend fn k np tc d hg =>
 split at e <;> try (simp at e; done)
 next hl =>
 split at e <;> try (simp at e; done)
 next rc hrc =>
 obtain ⟨rfl, r', bd, ed, p1, p2, p3, p4, p5, p6, p7, p8, p9⟩ := CObj.loopR H hg q1
 rw [q2] at p1; simp only [Option.some.injEq, Obj.loop.injEq] at p1; subst p1
 obtain ⟨ps, ag, bo, m1, m2, m3, m4, m5, m6⟩ := (hR _ _ _ hrc).ex
 rw [hk, m1] at p3; simp only [Option.some.injEq, Prod.mk.injEq] at p3; obtain ⟨rfl, rfl, rfl⟩ := p3
 split at e <;> try (simp at e; done)
 next a₁ h₁ e₁ =>
 split at e <;> try (simp at e; done)
 next pend₁ fn₁ k₁ np₁ tc₁ d₁ hg₁ =>
 split at e <;> try (simp at e; done)
 next x a₂ h₂ e₂ =>
 split at e <;> try (simp at e; done)
 next hd₂ =>
 split at e <;> try (simp at e; done)
 next st₂ pend₂ fn₂ k₂ np₂ tc₂ d₂ hg₂ =>
 have F₀ : FrR ι ⟨setsC tc rc.params args, []⟩ { tmps := (r.params.zip args').foldl (fun tmps (t, a) => tmps.setIfInBounds t a) r.tmps, defers := [] } := by
  refine ⟨?_, trivial⟩
  have := sets_sim (ι := ι) r.params.toList args args'.toList tc r.tmps q3 p7
  rw [m2]
  rw [← Array.foldl_toList, Array.toList_zip]
  exact this
 refine roundIn_of_wpIn (F := Wd none) trivial (wpIn_mono (m5 call hc n _ h _ a₁ h₁ e₁ K ι _ w hk H F₀ (some l) (fun _ => m3)) ?_)
 rintro x₁ A₁ w₁ ⟨hER, ι₁, hle₁, H₁, F₁⟩
 cases x₁ <;> simp only [ER] at hER
 have hi₁ := hle₁ _ _ q1
 obtain ⟨-, r₁, bd₁, ed₁, s1, s2, s3, s4, s5, s6, s7, s8, s9⟩ := CObj.loopR H₁ hg₁ hi₁
 have H₁' := H₁.setLoop hg₁ hi₁ s1 .busy pend₁
 rw [← s6] at H₁'
 refine ⟨_, run_beginRound s1 s5, ?_⟩
 refine wpIn_mono (m6 call hc n _ _ x a₂ h₂ e₂ K ι₁ _ _ hk H₁' F₁ (some l) (fun _ => m4)) ?_
 rintro x₂ A₂ w₂ ⟨hER₂, ι₂, hle₂, H₂, F₂⟩
 have hi₂ := hle₂ _ _ hi₁
 obtain ⟨-, r₂, bd₂, ed₂, t1, t2, t3, t4, t5, t6, t7, t8, t9⟩ := CObj.loopR H₂ hg₂ hi₂
 have hle := hle₁.trans hle₂
 cases x <;> cases x₂ <;> simp only [ER] at hER₂
 ·simp only [Option.some.injEq, Prod.mk.injEq] at e; obtain ⟨rfl, rfl⟩ := e
  exact ⟨_, _, run_endRound none t1, ι₂, _, hle, rfl, H₂.setLoop hg₂ hi₂ t1 .ready none, .bool _⟩
 ·simp only [Option.some.injEq, Prod.mk.injEq] at e; obtain ⟨rfl, rfl⟩ := e
  subst hER₂
  exact ⟨_, _, run_endRound (some (.exit _)) t1, ι₂, _, hle, rfl, H₂.setLoop hg₂ hi₂ t1 .done (some (.exit _)), .bool _⟩
 ·simp only [Option.some.injEq, Prod.mk.injEq] at e; obtain ⟨rfl, rfl⟩ := e
  exact ⟨_, _, run_endRound (some .ret) t1, ι₂, _, hle, rfl, H₂.setLoop hg₂ hi₂ t1 .done (some .ret), .bool _⟩
 ·simp only [Option.some.injEq, Prod.mk.injEq] at e; obtain ⟨rfl, rfl⟩ := e
  subst hER₂
  exact ⟨_, _, run_endRound (some (.goto _)) t1, ι₂, _, hle, rfl, H₂.setLoop hg₂ hi₂ t1 .done (some (.goto _)), .bool _⟩
theorem Sim.rangeF {fn k np : Nat} {g : Operand} {gx : CX} (hg : compG glb g = some gx) {ps : Array Tmp} {asg body : Code} (hm : glb.mod fn k = some (ps, asg, body)) (hnp : ps.size = np) : Sim P glb (.rangeFunc g ps asg body) (.rangeF fn k np gx) := by
 intro call hc n a h x a' h' e K ι A w hk H F r hr
 cases r with
 | some l => exact absurd (hr rfl) (by simp [noDef])
 | none =>
 cases n with
 | zero => simp [evCode] at e
 | succ n =>
 simp only [evCode] at e
 have hv := compG_ev (a := a.tmps) (A := A) H hk hg (fun t _ => F.tmps.tmp t)
 split at e <;> try (simp at e; done)
 next gid first cap hev =>
 rw [hev] at hv
 generalize hG : A.eval g = gv at hv
 cases hv with
 | func _ _ _ first' cap' R1 R2 =>
 split at e <;> try (simp at e; done)
 next v h₁ hcall =>
 split at e <;> try (simp at e; done)
 next st pend fn' k' np' tc' d' hg₁ =>
 have n1 : (h.new .dfr).next = h.next + 1 := Heap.next_new _ _
 refine wpIn_rangeFunc fun fnid _ => ?_
 have H1 := H.new .dfr (.deferred (some [])) 0 w.drawn ⟨w.heap.size, 0, Emb.put_same _ _ _, by simp, fun hF => by have := H.hF _ hF; have := H.keep.size; omega⟩
 have le1 := ι.le_put h.next (w.heap.size, 0, 0) (H.fresh _ (Nat.le_refl _)).1
 have d1 : (ι.put h.next (w.heap.size, 0, 0)) h.next = some (w.heap.size, 0, 0) := Emb.put_same _ _ _
 generalize ι.put h.next (w.heap.size, 0, 0) = ι1 at H1 le1 d1
 have hs1 : (w.heap.push (.deferred (some []))).size = w.heap.size + 1 := by simp
 have le2 := ι1.le_put (h.new .dfr).next (w.heap.size + 1, 0, 0) (H1.fresh _ (Nat.le_refl _)).1
 have d2 : (ι1.put (h.new .dfr).next (w.heap.size + 1, 0, 0)) (h.new .dfr).next = some (w.heap.size + 1, 0, 0) := Emb.put_same _ _ _
 have le := le1.trans le2
 have H2 := H1.new (.loop .ready none fn k np a.tmps h.next) (.loop { state := .ready, pending := none, fn := fnid, tmps := A.tmps, params := ps, assign := asg, body, defers := w.heap.size }) 0 w.drawn
  (by
   show ObjR (ι1.put (h.new .dfr).next ((w.heap.push (.deferred (some []))).size, 0, 0)) _ _ _ _ _
   rw [hs1]
   refine ⟨w.heap.size + 1, 0, { state := .ready, pending := none, fn := fnid, tmps := A.tmps, params := ps, assign := asg, body, defers := w.heap.size }, w.heap.size, 0, d2, ?_, fun hF => ?_, by rw [show K.glb = glb from hk]; exact hm, hnp, rfl, rfl, F.tmps.mono le, le2 _ _ d1, rfl⟩
   ·show ((w.heap.push (.deferred (some []))).push _)[w.heap.size + 1]? = _
    rw [Array.getElem?_push, if_pos hs1.symm]
   ·have := H.hF _ hF; have := H.keep.size; omega)
 have e2 : (ι1.put (h.new .dfr).next ((({ w with heap := w.heap.push (.deferred (some [])), drawn := w.drawn } : World)).heap.size, 0, 0)) = ι1.put (h.new .dfr).next (w.heap.size + 1, 0, 0) := by rw [show (({ w with heap := w.heap.push (.deferred (some [])), drawn := w.drawn } : World)).heap.size = w.heap.size + 1 from hs1]
 rw [e2] at H2
 generalize ι1.put (h.new .dfr).next (w.heap.size + 1, 0, 0) = ι2 at H2 le2 d2 le
 have R : VRs ι2 (first ++ [.yield (h.new .dfr).next] ++ cap) (first' ++ #[Value.func (.yield (w.heap.size + 1)) #[] #[]] ++ cap').toList := by
  rw [Array.toList_append, Array.toList_append]
  exact ((R1.mono le).append (.cons _ _ _ _ (.yield _ _ _ _ d2) .nil)).append (R2.mono le)
 obtain ⟨gfn, g1, g2, g3⟩ := hc.body _ _ _ _ hcall
 let W2 : World := (w.alloc (.deferred (some []))).alloc (.loop { state := .ready, pending := none, fn := fnid, tmps := A.tmps, params := ps, assign := asg, body, defers := w.heap.size })
 refine ⟨w.heap.size + 1, [{ target := .collected w.heap.size, args := #[] }], W2, { target := .fn (.func gid) cap', args := first' ++ #[.func (.yield (w.heap.size + 1)) #[] #[]] }, W2, gid, first' ++ #[.func (.yield (w.heap.size + 1)) #[] #[]] ++ cap', W2, run_enterLoop_outer fnid A.tmps ps asg body, ?_, fun _ _ => trivial, ?_, fun q => by simp at q, ?_⟩
 ·have ec : A.eval (.const (.func (.yield (w.heap.size + 1)) #[] #[])) = .func (.yield (w.heap.size + 1)) #[] #[] := rfl
  simp only [resolve, hG, Deferred.ofValue, Sem.run_pure]
  simp [ec]
 ·have g3' : gfn.name ≠ "runtime.NumGoroutine" := by simpa using g3
  have hb2 : gfn.body ≠ none := by intro hq; rw [hq] at g2; simp at g2
  simp [invoke, callFunc, g1, g3', hb2]
 ·refine callsIn_wd.2 ((hc.calls K ι2 _ _ gid _ _ v h₁ hk H2 R hcall).mono ?_)
  rintro e₃ w₃ ⟨ι₃, v₃, le3, rfl, H₃, _⟩
  have hi₃ := le3 _ _ d2
  obtain ⟨-, r₃, bd₃, ed₃, s1, s2, s3, s4, s5, s6, s7, s8, s9⟩ := CObj.loopR H₃ hg₁ hi₃
  split at e
  ·simp at e
  ·next hst =>
   simp only [Option.some.injEq, Prod.mk.injEq] at e
   obtain ⟨rfl, rfl, rfl⟩ := e
   have H₄ := H₃.setLoop hg₁ hi₃ s1 .exhausted pend
   have le4 := le.trans le3
   have F₄ : FrR ι₃ { a with defers := markD h.next :: a.defers } { A with defers := [{ target := .collected w.heap.size, args := #[] }] ++ A.defers } :=
    ⟨F.tmps.mono le4, ⟨w.heap.size, 0, le3 _ _ (le2 _ _ d1), rfl⟩, F.defers.mono le4⟩
   refine ⟨_, _, run_endLoop s1 (by rw [s5]; exact hst), ?_⟩
   rw [s6]
   cases pend with
   | none => exact ⟨trivial, ι₃, le4, H₄, F₄⟩
   | some j =>
    cases j with
    | exit id => exact wpIn_exit ⟨rfl, ι₃, le4, H₄, F₄⟩
    | ret => exact wpIn_ret ⟨trivial, ι₃, le4, H₄, F₄⟩
    | goto l => exact wpIn_goto ⟨rfl, ι₃, le4, H₄, F₄⟩
structure PrimOk (P : Program) (glb : Gl) (f : FuncId) (p : List CVal → Heap → Option (CVal × Heap)) : Prop where
 body : HasBody P f
 calls : ∀ (K : Ctx) (ι : Emb) (h : Heap) (w : World) (args : List CVal) (args' : Array Value) (v : CVal) (h' : Heap), K.glb = glb → Inv K ι h w → VRs ι args args'.toList →
  p args h = some (v, h') → Calls P f args' w fun e w' => ∃ ι' v', ι.le ι' ∧ e = .returned v' ∧ Inv K ι' h' w' ∧ VR ι' v v'
structure TabOk (P : Program) (glb : Gl) (T : Tab) : Prop where
 code : ∀ f cf, T.code f = some cf → FuncR P glb f cf
 prim : ∀ f p, T.prim f = some p → PrimOk P glb f p
 rounds : ∀ fn k rc, T.rounds fn k = some rc → RoundCR P glb fn k rc := by intro _ _ _ h; cases h
 dcode : ∀ f cf, T.dcode f = some cf → FuncRD P glb f cf := by intro _ _ h; cases h
theorem TabOk.dcod {T : Tab} (hT : TabOk P glb T) {f : FuncId} {cf : CFunc} (h : T.dcod f = some cf) : FuncRD P glb f cf := by
 unfold Tab.dcod at h
 split at h
 ·next fn hf => simp only [Option.some.injEq] at h; subst h; exact (hT.code f fn hf).deferred
 ·exact hT.dcode f cf h
theorem callF_ok {T : Tab} (hT : TabOk P glb T) : ∀ n, CallOk P glb (callF T n)
 | 0 => ⟨fun f args h r e => by simp [callF] at e, fun K ι h w f args args' v h' hk H R e => by simp [callF] at e, fun K ι h w i args l f tmps asg body v h' hk H R e => by simp [callF] at e⟩
 | n + 1 => by
  have ih := callF_ok hT n
  have ihd : CalldOk P glb (fun g as h => match T.dcod g with | some gn => evBodyD (callF T n) n gn as h | none => none) := by
   refine ⟨fun f args h r e => ?_, fun K ι h w f args args' v h' hk H R e => ?_⟩
   ·split at e
    ·next gn hg => exact (hT.dcod hg).body
    ·simp at e
   ·split at e
    ·next gn hg => exact bodyD_sim ih (hT.dcod hg) hk H R e
    ·simp at e
  refine ⟨fun f args h r e => ?_, fun K ι h w f args args' v h' hk H R e => ?_, fun K ι h w i args l f tmps asg body v h' hk H R e => ?_⟩
  ·rw [callF_fn] at e
   split at e
   ·next p hp => exact (hT.prim f p hp).body
   ·split at e
    ·next fn hf => exact (hT.code f fn hf).body
    ·simp at e
  ·rw [callF_fn] at e
   split at e
   ·next p hp => exact (hT.prim f p hp).calls K ι h w args args' v h' hk H R e
   ·split at e
    ·next fn hf => exact body_sim ih ihd (hT.code f fn hf) hk H R e
    ·simp at e
  ·rw [callF_round] at e
   exact round_sim ih hT.rounds hk H R e
end
end Go.Proofs.YtkjdgdkkepmciaaGreat.Cm
