/-
  The clean machine, part H: rows that are made, keys, maps.
-/
import Derived.Test.YtmppoknfekdbbaaDoorCmXG
import Derived.Laws.StructEq
import Derived.Laws.MakeOwn
namespace Go.Proofs.YtmppoknfekdbbaaDoor.Cm
open Go.RowKit

section
variable {P : Program} {K : Ctx} {ι : Emb} {h : Heap} {w : World} {a : List CVal} {A : Act}

theorem repC_all {zero : List CVal} (hz : zero.all CVal.one = true) : ∀ n, (repC n zero).all CVal.one = true
  | 0 => rfl
  | n + 1 => by simp only [repC, List.all_append, hz, repC_all hz n, Bool.and_self]

theorem aout_newSlice (H : Inv K ι h w) {elem : TypeId} {cs : List CVal} {cs' : Array Value} (R : VRs ι cs cs'.toList) (h1 : cs.all CVal.one = true) {l c : Nat} (hlc : l ≤ c) {s : Sem Next} {id : Nat}
    (hs : s.run P w = ((Go.newRow elem cs').run P w).andThen fun x w => .ok (.value (.slice (some x) l c)) w) : AOut P K ι id (.slice id 0 l c) (.cells cs true none) s w :=
  aout_row H R h1 (fun x => .slice (some x) l c) (fun _ hi => .slice _ 0 _ _ w.heap.size 0 0 _ hi (.inl rfl) hlc) hs

theorem sim_buildSlice (H : Inv K ι h w) {t el : TypeId} {len sz : Nat} (ht : P.underlying t = some (.slice el)) (hn : (sizeOf el).run P w = .ok sz w) (hsmall : len * sz ≤ 16777216) {zv : Value} (hz : (zeroValue el).run P w = .ok zv w) {zero : List CVal} (Rz : VRs ι zero zv.cells.toList) (hzs : zv.cells.size = sz)
    {parts : Array (Nat × Operand)} {qs : List (Nat × Nat × CX)}
    (hp : (qs.map fun p => (p.1, p.2.1, p.2.2.ev a)).length = (parts.toList.map fun p => (p.1, A.eval p.2)).length ∧
      ∀ (j : Nat) (p : Nat × Nat × CVal) (q : Nat × Value), (qs.map fun p => (p.1, p.2.1, p.2.2.ev a))[j]? = some p → (parts.toList.map fun p => (p.1, A.eval p.2))[j]? = some q → (fun i => some (i * sz, sz)) q.1 = some (p.1, p.2.1) ∧ VR ι p.2.2 q.2)
    {o : Oper} (ho : o.op = .buildSlice t len parts)
    {id : Nat} {v : CVal} {obj : CObj} (e : allocC (.buildSlice zero len qs) a id = some (v, obj)) : AOut P K ι id v obj (execOp A.eval o) w := by
  simp only [allocC] at e
  split at e
  · next cs hcs =>
    split at e
    · next h1 =>
      simp at e; obtain ⟨rfl, rfl⟩ := e
      obtain ⟨r', h2, h3⟩ := fill_sim (place := fun i => some (i * sz, sz)) _ _ _ _ hp.1 hp.2 (repC_rel Rz len sz hzs) cs hcs
      refine aout_newSlice H (elem := el) (l := len) (c := len) h3 h1 (Nat.le_refl _) ?_
      have hfill : Instr.fill (fun i => some (i * sz, sz)) ((Array.range (len * sz)).map (fun i => zv.cells[i % zv.cells.size]!)) ((parts.map fun (i, x) => (i, A.eval x)).toList) = some r' := by simpa using h2
      have hbs : (Instr.buildSlice t len (parts.map fun (i, x) => (i, A.eval x))).run P w = ((Go.newRow el r').run P w).andThen fun x w => .ok (.slice (some x) len len) w := by
        simp only [Instr.buildSlice, Sem.run_bind, run_underlying ht, Result.andThen, hn]
        rw [if_neg (by omega)]
        by_cases h0 : len * sz = 0
        · simp only [h0, if_true]
          simp only [h0] at hfill
          have : (Array.range 0).map (fun i => (#[] : Array Value)[i % (#[] : Array Value).size]!) = (Array.range 0).map (fun i => zv.cells[i % zv.cells.size]!) := by simp
          have hpb : ∀ {α β : Type} (x : α) (f : α → Sem β), (pure x >>= f) = f x := fun _ _ => rfl
          simp only [hpb]
          rw [this, hfill]
          simp only [Sem.run_bind, Result.andThen, Sem.run_pure]
        · simp only [h0, if_false, Sem.run_bind, hz, Result.andThen, Sem.run_pure, hfill]
      simp only [execOp, ho, Sem.run_bind, hbs]
      cases (Go.newRow el r').run P w <;> rfl
    · simp at e
  · simp at e

theorem sim_makeSlice (H : Inv K ι h w) {t el : TypeId} {i : TypeInfo} (ht : P.underlying t = some (.slice el)) (hi : P.info? el = some i) {zv : Value} (hz : i.zero = some zv) {zero : List CVal} (Rz : VRs ι zero zv.cells.toList) (hzs : zv.cells.size = i.size) (h1 : zero.all CVal.one = true)
    {L C : Operand} {l c : CX} (hl : VR ι (l.ev a) (A.eval L)) (hc : VR ι (c.ev a) (A.eval C)) {o : Oper} (ho : o.op = .makeSlice t L C)
    {id : Nat} {v : CVal} {obj : CObj} (e : allocC (.makeSlice zero i.bytes l c) a id = some (v, obj)) : AOut P K ι id v obj (execOp A.eval o) w := by
  simp only [allocC] at e
  split at e
  · next ln cn hln hcn =>
    obtain ⟨kl, hL⟩ := asNat_some hl hln
    obtain ⟨kc, hC⟩ := asNat_some hc hcn
    split at e
    · next hb =>
      obtain ⟨hlc, hbytes, hc40⟩ := hb
      simp at e; obtain ⟨rfl, rfl⟩ := e
      refine aout_newSlice H (elem := el) (l := ln) (c := cn) (repC_rel Rz cn i.size hzs) (repC_all h1 cn) hlc ?_
      have hb' : (i.bytes : Int) * (cn : Int) ≤ 281474976710656 := by
        have : ((cn * i.bytes : Nat) : Int) ≤ 1099511627776 := by omega
        rw [Int.natCast_mul, Int.mul_comm] at this; omega
      have hrun := run_make (P := P) w t el i zv ht hi hz kl kc (ln : Int) (cn : Int) (by omega) (by omega) hb' (by omega)
      have hnew : (Go.newRow el ((Array.range (cn * i.size)).map (fun j => zv.cells[j % zv.cells.size]!))).run P w = .ok ⟨w.heap.size, 0, none⟩ (w.alloc (.cells (madeCells zv.cells (cn * i.size)) el)) := by
        rfl
      rw [hnew]
      simp only [execOp, ho, hL, hC, Sem.run_bind, hrun]
      rfl
    · simp at e
  · simp at e

/-! ### Keys -/

def PK.fits : PK → TypeDesc → Bool
  | .bool, .bool | .int, .int _ | .str, .string => true
  | _, _ => false

/-- The type of a flat struct: its fields one behind the other, of plain kinds. -/
def flatFs (P : Program) : Nat → List Field → List PK → Bool
  | _, [], [] => true
  | j, f :: fs, k :: ks => f.offset == j && f.name != "_" && (match P.underlying f.type with | some d => k.fits d | none => false) && flatFs P (j + 1) fs ks
  | _, _, _ => false

def flatT (P : Program) (t : TypeId) (ks : List PK) : Bool :=
  match P.underlying t with
  | some (.struct fs) => flatFs P 0 fs.toList ks && !P.stoodInHeld t
  | _ => false

def KT.fits (P : Program) (t : TypeId) : KT → Bool
  | .one k => match P.underlying t with | some d => k.fits d | none => false
  | .flat ks => flatT P t ks

theorem run_peq {k : PK} {d : TypeDesc} {t : TypeId} (ht : P.underlying t = some d) (hf : k.fits d = true) {u s : CVal} {u' s' : Value} (hu : VR ι u u') (hs : VR ι s s') {b : Bool} (e : peq k u s = some b) (n : Nat) : (Op.equalIn (n + 1) t u' s').run P w = .ok b w := by
  cases k <;> cases d <;> simp [PK.fits] at hf <;> cases hu <;> cases hs <;> simp [peq] at e
  · subst e; simp [Op.equalIn, run_underlying ht]
  · obtain ⟨rfl, rfl⟩ := e; simp [Op.equalIn, run_underlying ht]
  · subst e
    rw [run_equalIn_string w n t _ _ ht]
    simp [ByteArray.toList_eq]

theorem plain_agg {k : PK} {d : TypeDesc} {t : TypeId} (ht : P.underlying t = some d) (hf : k.fits d = true) : (isAgg t).run P w = .ok false w := by
  cases k <;> cases d <;> simp [PK.fits] at hf <;> simp [isAgg, run_underlying ht]

theorem run_peqs {as bs : List CVal} {as' bs' : Array Value} (ha : VRs ι as as'.toList) (hb : VRs ι bs bs'.toList) (n : Nat) : ∀ (fs : List Field) (ks : List PK) (j : Nat), flatFs P j fs ks = true → ∀ b, peqs ks (as.drop j) (bs.drop j) = some b → (Op.eqFields (n + 1) as' bs' fs).run P w = .ok b w
  | [], [], j, _, b, e => by
    generalize as.drop j = x at e
    generalize bs.drop j = y at e
    cases x <;> cases y <;> simp [peqs] at e
    subst e; simp [Op.eqFields]
  | f :: fs, k :: ks, j, hf, b, e => by
    simp only [flatFs, Bool.and_eq_true, beq_iff_eq, bne_iff_ne, ne_eq] at hf
    obtain ⟨⟨⟨h1, h2⟩, h3⟩, h4⟩ := hf
    split at h3
    · next d hd =>
      cases hx : as.drop j with
      | nil => rw [hx] at e; simp [peqs] at e
      | cons x xs =>
        cases hy : bs.drop j with
        | nil => rw [hx, hy] at e; simp [peqs] at e
        | cons y ys =>
          rw [hx, hy] at e
          have hxj : as[j]? = some x := by have := List.getElem?_drop (xs := as) (i := j) (j := 0); rw [hx] at this; simpa using this.symm
          have hyj : bs[j]? = some y := by have := List.getElem?_drop (xs := bs) (i := j) (j := 0); rw [hy] at this; simpa using this.symm
          have hxs : as.drop (j + 1) = xs := by rw [← List.drop_drop, hx]; rfl
          have hys : bs.drop (j + 1) = ys := by rw [← List.drop_drop, hy]; rfl
          obtain ⟨x', hx1, hx2⟩ := ha.get j x hxj
          obtain ⟨y', hy1, hy2⟩ := hb.get j y hyj
          have hx3 : as'[j]? = some x' := by simpa using hx1
          have hy3 : bs'[j]? = some y' := by simpa using hy1
          have hag := plain_agg (P := P) (w := w) hd h3
          simp only [peqs] at e
          have step : ∀ c, peq k x y = some c → (Op.eqFields (n + 1) as' bs' (f :: fs)).run P w = if (!c) = true then .ok false w else (Op.eqFields (n + 1) as' bs' fs).run P w := by
            intro c hc
            have hr := run_peq (P := P) (w := w) hd h3 hx2 hy2 hc n
            simp only [Op.eqFields, ne_eq, h2, not_false_eq_true, if_true, Sem.run_bind, part, hag, Result.andThen, Bool.false_eq_true, if_false, h1, hx3, hy3, Sem.run_pure, hr]
            split <;> rfl
          cases hp : peq k x y with
          | none => rw [hp] at e; simp at e
          | some c =>
            rw [hp] at e
            rw [step c hp]
            cases c with
            | false => simp at e; subst e; rfl
            | true =>
              simp at e
              simp only [Bool.not_true, Bool.false_eq_true, if_false]
              exact run_peqs ha hb n fs ks (j + 1) h4 b (by rw [hxs, hys]; exact e)
    · simp at h3
  | [], _ :: _, _, hf, _, _ => by simp [flatFs] at hf
  | _ :: _, [], _, hf, _, _ => by simp [flatFs] at hf

theorem fieldsOf_eq {t : TypeId} {fs : Array Field} (ht : P.underlying t = some (.struct fs)) : P.fieldsOf t = fs := by simp [Program.fieldsOf, ht]

theorem run_eqS {t : TypeId} {ks : List PK} (hf : flatT P t ks = true) {as bs : List CVal} {as' bs' : Array Value} (ha : VRs ι as as'.toList) (hb : VRs ι bs bs'.toList) {b : Bool} (e : peqs ks as bs = some b) (n : Nat) :
    (Op.equalIn (n + 2) t (.agg as') (.agg bs')).run P w = .ok b w := by
  unfold flatT at hf
  split at hf
  · next fs hfs =>
    simp only [Bool.and_eq_true, Bool.not_eq_true'] at hf
    rw [run_equalIn_struct w (n + 1) t as' bs' (by rw [fieldsOf_eq hfs]; exact hfs) hf.2, fieldsOf_eq hfs]
    exact run_peqs ha hb n fs.toList ks 0 hf.1 b (by simpa using e)
  · simp at hf

theorem run_keyeq {t : TypeId} {kt : KT} (hf : kt.fits P t = true) {u s : CVal} {u' s' : Value} (hu : VR ι u u') (hs : VR ι s s') {b : Bool} (e : keyeq kt u s = some b) (n : Nat) : (Op.equalIn (n + 2) t u' s').run P w = .ok b w := by
  cases kt with
  | one k =>
    simp only [KT.fits] at hf
    split at hf
    · next d hd => exact run_peq hd hf hu hs (by simpa [keyeq] using e) (n + 1)
    · simp at hf
  | flat ks =>
    cases hu <;> cases hs <;> simp [keyeq] at e
    next as as' ha bs bs' hb => exact run_eqS hf ha hb e n

theorem sim_eqS (H : Inv K ι h w) {neg : Bool} {t t' : TypeId} {ks : List PK} (hf : flatT P t ks = true) (hg : P.eqGuardType P.depth t = false) {X Y : Operand} {x y : CX} (hx : VR ι (x.ev a) (A.eval X)) (hy : VR ι (y.ev a) (A.eval Y))
    {o : Oper} (ho : o.op = .binOp (if neg then .neq else .eql) t X Y t')
    {r : CRes} {h' : Heap} (e : cop (.eqS ks neg x y) a h = some (r, h')) : OutQ P ι h r h' (execOp A.eval o) w := by
  simp only [cop] at e
  split at e
  · next as bs h1 h2 =>
    rw [h1] at hx; rw [h2] at hy
    split at e
    · next b hb =>
      simp at e; obtain ⟨rfl, rfl⟩ := e
      generalize hX : A.eval X = X' at hx
      generalize hY : A.eval Y = Y' at hy
      cases hx with
      | agg _ as' ha =>
        cases hy with
        | agg _ bs' hb' =>
          have hr := run_eqS (P := P) (w := w) hf ha hb' hb 9998
          refine out_val H (v' := .bool (if neg then !b else b)) ?_ (.bool _)
          have hgd : ∀ op, (eqGuard op t X Y (.agg as') (.agg bs')).run P w = .ok () w := fun op => run_eqGuard_agg w op t X Y as' bs' hg
          cases neg
          · simp only [execOp, ho, hX, hY, Sem.run_bind, hgd, Result.andThen_ok, Bool.false_eq_true, if_false, run_eql_struct, hr, Sem.run_pure]
          · simp only [execOp, ho, hX, hY, Sem.run_bind, hgd, Result.andThen_ok, if_true, run_neq_struct, hr, Sem.run_pure]
    · simp at e
  · simp at e

end
end Go.Proofs.YtmppoknfekdbbaaDoor.Cm
