/-
  The clean machine, part D: from the model's operations to the clean ones; what a clean operation does, the model's does.
-/
import Derived.Test.YtmppoknfekdbbaaDoorCmXC
namespace Go.Proofs.YtmppoknfekdbbaaDoor.Cm
open Go.RowKit

/-- A constant's clean value. -/
def ofV : Nat → Value → Option CVal
  | 0, _ => none
  | n + 1, v => match v with
    | .bool b => some (.bool b)
    | .int k x => some (.int k x)
    | .string s => some (.str s.data.toList)
    | .pointer none => some .nilPtr
    | .slice none 0 0 => some .nilSlice
    | .map none => some .nilMap
    | .nilFunc => some .nilFunc
    | .nilIface => some .nilIface
    | .func (.func f) first cap => if first.size = 0 ∧ cap.size = 0 then some (.func f [] []) else none
    | .iface t x => (ofV n x).map (.iface t)
    | .agg cs => (ofVs n cs.toList).map .agg
    | .tuple cs => if cs.size = 0 then some (.tuple []) else none
    | _ => none
where
  ofVs (n : Nat) : List Value → Option (List CVal)
    | [] => some []
    | v :: vs => match ofV n v, ofVs n vs with
      | some c, some cs => some (c :: cs)
      | _, _ => none

theorem ofVs_rel {ι : Emb} {n : Nat} (ih : ∀ v c, ofV n v = some c → VR ι c v) : ∀ (vs : List Value) (cs : List CVal), ofV.ofVs n vs = some cs → VRs ι cs vs
  | [], cs, h => by simp [ofV.ofVs] at h; subst h; exact .nil
  | v :: vs, cs, h => by
    simp only [ofV.ofVs] at h
    cases h1 : ofV n v with
    | none => simp [h1] at h
    | some c =>
      cases h2 : ofV.ofVs n vs with
      | none => simp [h1, h2] at h
      | some cs' => simp [h1, h2] at h; subst h; exact .cons _ _ _ _ (ih v c h1) (ofVs_rel ih vs cs' h2)

theorem ofV_rel {ι : Emb} : ∀ (n : Nat) (v : Value) (c : CVal), ofV n v = some c → VR ι c v
  | 0, _, _, h => by simp [ofV] at h
  | n + 1, v, c, h => by
    have ih := ofV_rel (ι := ι) n
    unfold ofV at h
    split at h
    · simp at h; subst h; exact .bool _
    · simp at h; subst h; exact .int _ _
    · simp at h; subst h; exact .str _
    · simp at h; subst h; exact .nilPtr
    · simp at h; subst h; exact .nilSlice
    · simp at h; subst h; exact .nilMap
    · simp at h; subst h; exact .nilFunc
    · simp at h; subst h; exact .nilIface
    · next f first cap =>
      split at h
      · next hs =>
        simp at h; subst h
        have h1 : first = #[] := Array.eq_empty_of_size_eq_zero hs.1
        have h2 : cap = #[] := Array.eq_empty_of_size_eq_zero hs.2
        subst h1 h2
        exact .func _ _ _ _ _ .nil .nil
      · simp at h
    · next t x =>
      cases h1 : ofV n x with
      | none => simp [h1] at h
      | some y => simp [h1] at h; subst h; exact .iface _ _ _ (ih _ _ h1)
    · next cs =>
      cases h1 : ofV.ofVs n cs.toList with
      | none => simp [h1] at h
      | some y => simp [h1] at h; subst h; exact .agg _ _ (ofVs_rel ih _ _ h1)
    · next cs =>
      split at h
      · next hs =>
        simp at h; subst h
        have h1 : cs = #[] := Array.eq_empty_of_size_eq_zero hs
        subst h1
        exact .tuple _ _ .nil
      · simp at h
    · simp at h

def depthV : Nat := 40

def compX : Operand → Option CX
  | .tmp t => some (.t t)
  | .const v => (ofV depthV v).map .c
  | .global g => some (.c (.ptr g 0))
  | .func f => some (.c (.func f [] []))

def compXs : List Operand → Option (List CX)
  | [] => some []
  | x :: xs => match compX x, compXs xs with
    | some c, some cs => some (c :: cs)
    | _, _ => none

def compXo : Option Operand → Option (Option CX)
  | none => some none
  | some x => (compX x).map some

/-- A step's result in the model. -/
def NR (ι : Emb) : CRes → Next → Prop
  | .val v, .value v' => VR ι v v'
  | .val v, .skip => VR ι v Go.undef
  | .enter f args, .enter f' args' => f = f' ∧ VRs ι args args'.toList
  | .defer f args, .defer d => ∃ cap : Array Value, d.target = .fn (.func f) cap ∧ VRs ι args (d.args ++ cap).toList
  | _, _ => False

def Out (P : Program) (K : Ctx) (ι : Emb) (r : CRes) (h' : Heap) (s : Sem Next) (w : World) : Prop :=
  ∃ ι' w' n, ι.le ι' ∧ s.run P w = .ok n w' ∧ Inv K ι' h' w' ∧ NR ι' r n

section
variable {P : Program} {K : Ctx} {ι : Emb} {h : Heap} {w : World} {a : List CVal} {A : Act}

/-- A slot stands for what the model has there. -/
def TmpR (ι : Emb) (a : List CVal) (A : Act) (t : Nat) : Prop := VR ι (a.getD t .undef) (A.tmps.getD t Go.undef)

theorem VRs.tmp (R : VRs ι a A.tmps.toList) (t : Nat) : TmpR ι a A t := by
  unfold TmpR
  simp only [List.getD]
  cases ht : a[t]? with
  | none => exact .undef _
  | some v =>
    obtain ⟨v', h1, h2⟩ := R.get t v ht
    simp only [Array.getElem?_toList] at h1
    simpa [Array.getD_eq_getD_getElem?, h1] using h2

def globOk (glb : Gl) : Operand → Bool
  | .global g => g < glb.n
  | _ => true

theorem Inv.ev' (H : Inv K ι h w) {X : Operand} {x : CX} (hx : compX X = some x) (R : ∀ t, X = .tmp t → TmpR ι a A t) (hg : globOk K.glb X = true) : VR ι (x.ev a) (A.eval X) := by
  cases X with
  | tmp t =>
    simp [compX] at hx; subst hx
    exact R t rfl
  | const v =>
    simp [compX] at hx
    obtain ⟨c, h1, rfl⟩ := hx
    exact ofV_rel _ _ _ h1
  | global g =>
    simp [compX] at hx; subst hx
    exact .ptr _ 0 g 0 0 (H.glob g (by simpa [globOk] using hg))
  | func f =>
    simp [compX] at hx; subst hx
    exact .func _ _ _ _ _ .nil .nil

theorem Inv.evs (H : Inv K ι h w) : ∀ {Xs : List Operand} {xs : List CX}, compXs Xs = some xs → (∀ t, Operand.tmp t ∈ Xs → TmpR ι a A t) → (∀ X ∈ Xs, globOk K.glb X = true) → VRs ι (xs.map (·.ev a)) (Xs.map A.eval)
  | [], xs, hx, _, _ => by simp [compXs] at hx; subst hx; exact .nil
  | X :: Xs, xs, hx, R, hg => by
    simp only [compXs] at hx
    cases h1 : compX X with
    | none => simp [h1] at hx
    | some c =>
      cases h2 : compXs Xs with
      | none => simp [h1, h2] at hx
      | some cs =>
        simp [h1, h2] at hx; subst hx
        exact .cons _ _ _ _ (H.ev' h1 (fun t e => R t (by simp [e])) (hg X (by simp))) (H.evs h2 (fun t e => R t (by simp [e])) fun Y hY => hg Y (by simp [hY]))

/-- What changes nothing. -/
def OutQ (P : Program) (ι : Emb) (h : Heap) (r : CRes) (h' : Heap) (s : Sem Next) (w : World) : Prop :=
  ∃ v v', r = .val v ∧ h' = h ∧ s.run P w = .ok (.value v') w ∧ VR ι v v'

theorem out_val (_ : Inv K ι h w) {v : CVal} {v' : Value} {s : Sem Next} (hr : s.run P w = .ok (.value v') w) (hv : VR ι v v') : OutQ P ι h (.val v) h s w :=
  ⟨v, v', rfl, rfl, hr, hv⟩

theorem OutQ.out (H : Inv K ι h w) {r : CRes} {h' : Heap} {s : Sem Next} (q : OutQ P ι h r h' s w) : Out P K ι r h' s w := by
  obtain ⟨v, v', rfl, rfl, hr, hv⟩ := q
  exact ⟨ι, w, .value v', Emb.le.refl _, hr, H, hv⟩

/-- A new row of cells. -/
theorem Inv.newRow (H : Inv K ι h w) {P : Program} {elem : TypeId} {cs : List CVal} {cs' : Array Value} (R : VRs ι cs cs'.toList) (h1 : cs.all CVal.one = true) :
    (Go.newRow elem cs').run P w = .ok ⟨w.heap.size, 0, none⟩ { w with heap := w.heap.push (.cells cs' elem) } ∧
    Inv K (ι.put h.next (w.heap.size, 0, 0)) (h.new (.cells cs true none)) { w with heap := w.heap.push (.cells cs' elem) } := by
  refine ⟨by simp [Go.newRow, newObj, Sem.run], ?_⟩
  have hle := ι.le_put h.next (w.heap.size, 0, 0) (H.fresh _ (Nat.le_refl _)).1
  refine H.new (n := w.drawn) (.cells cs true none) (.cells cs' elem) 0 ?_
  refine ⟨w.heap.size, 0, 0, cs', elem, 0, 0, Emb.put_same _ _ _, by simp, ?_, fun _ => rfl, fun _ => ⟨fun hk => ?_, fun j hj => ?_⟩⟩
  · intro j v hv
    obtain ⟨v', h2, h3⟩ := R.get j v hv
    refine ⟨List.all_eq_true.1 h1 v (List.mem_of_getElem? hv), v', by simpa using h2, h3.mono hle⟩
  · have := H.hF _ hk; have := H.keep.size; omega
  · have := R.length
    simp at hj this
    exact ⟨by simp; omega, by omega⟩

theorem VR.put {v' : Value} {i : Nat} {x : Nat × Nat × Nat} (hi : ι i = none) {v : CVal} (hv : VR ι v v') : VR (ι.put i x) v v' := hv.mono (ι.le_put i x hi)

/-- A new object, at whatever id. -/
def AOut (P : Program) (K : Ctx) (ι : Emb) (id : Nat) (v : CVal) (obj : CObj) (s : Sem Next) (w : World) : Prop :=
  obj.wr = true ∧ ∃ (O : Obj) (v' : Value), s.run P w = .ok (.value v') { w with heap := w.heap.push O } ∧
    ∀ ι' : Emb, ι.le ι' → ι' id = some (w.heap.size, 0, 0) → VR ι' v v' ∧ ObjR ι' { w with heap := w.heap.push O } K.F id obj

theorem AOut.out (H : Inv K ι h w) {v : CVal} {obj : CObj} {s : Sem Next} (q : AOut P K ι h.next v obj s w) : Out P K ι (.val v) (h.new obj) s w := by
  obtain ⟨_, O, v', hr, q⟩ := q
  have hle := ι.le_put h.next (w.heap.size, 0, 0) (H.fresh _ (Nat.le_refl _)).1
  obtain ⟨hv, ho⟩ := q _ hle (Emb.put_same _ _ _)
  exact ⟨_, _, .value v', hle, hr, H.new (n := w.drawn) obj O 0 ho, hv⟩

theorem aout_row (H : Inv K ι h w) {elem : TypeId} {cs : List CVal} {cs' : Array Value} (R : VRs ι cs cs'.toList) (h1 : cs.all CVal.one = true) {s : Sem Next} {id : Nat} {v : CVal} (f : Addr → Value)
    (hv : ∀ ι' : Emb, ι' id = some (w.heap.size, 0, 0) → VR ι' v (f ⟨w.heap.size, 0, none⟩))
    (hs : s.run P w = ((Go.newRow elem cs').run P w).andThen fun x w => .ok (.value (f x)) w) : AOut P K ι id v (.cells cs true none) s w := by
  refine ⟨rfl, .cells cs' elem, f ⟨w.heap.size, 0, none⟩, by rw [hs]; simp [Go.newRow, newObj, Sem.run], fun ι' hle hi => ⟨hv ι' hi, ?_⟩⟩
  refine ⟨w.heap.size, 0, 0, cs', elem, 0, 0, hi, by simp, ?_, fun _ => rfl, fun _ => ⟨fun hk => ?_, fun j hj => ?_⟩⟩
  · intro j v hv
    obtain ⟨v', h2, h3⟩ := R.get j v hv
    refine ⟨List.all_eq_true.1 h1 v (List.mem_of_getElem? hv), v', by simpa using h2, h3.mono hle⟩
  · have := H.hF _ hk; have := H.keep.size; omega
  · have := R.length
    simp at hj this
    exact ⟨by simp; omega, by omega⟩

theorem aout_new (H : Inv K ι h w) {elem : TypeId} {cs : List CVal} {cs' : Array Value} (R : VRs ι cs cs'.toList) (h1 : cs.all CVal.one = true) {s : Sem Next} {id : Nat}
    (hs : s.run P w = ((Go.newRow elem cs').run P w).andThen fun x w => .ok (.value (.pointer (some x))) w) : AOut P K ι id (.ptr id 0) (.cells cs true none) s w :=
  aout_row H R h1 (fun x => .pointer (some x)) (fun _ hi => .ptr _ 0 w.heap.size 0 0 hi) hs

/-- The cells of a value. -/
theorem VR.cells {v : CVal} {v' : Value} (hv : VR ι v v') {cs : List CVal} (hc : v.cellsOf = some cs) : VRs ι cs v'.cells.toList ∧ cs.all CVal.one = true := by
  cases hv <;> simp [CVal.cellsOf] at hc <;> first
    | (obtain ⟨hc, rfl⟩ := hc; exact ⟨by simpa [Value.cells] using ‹VRs ι _ _›, by simpa using hc⟩)
    | (subst hc; exact ⟨.cons _ _ _ _ (by first | exact .bool _ | exact .int _ _ | exact .str _ | exact .nilPtr | exact .ptr _ _ _ _ _ ‹_› | exact .nilSlice | exact .slice _ _ _ _ _ _ _ _ ‹_› ‹_› ‹_› | exact .nilMap | exact .map _ _ _ _ ‹_› | exact .nilFunc | exact .func _ _ _ _ _ ‹_› ‹_› | exact .yield _ _ _ _ ‹_› | exact .nilIface | exact .iface _ _ _ ‹_›) .nil, by simp [CVal.one]⟩)

theorem sim_move (H : Inv K ι h w) {X : Operand} {x : CX} (hx : VR ι (x.ev a) (A.eval X)) {o : Oper} (ho : o.op = .move X ∨ o.op = .assign X) {r : CRes} {h' : Heap} (e : cop (.move x) a h = some (r, h')) : OutQ P ι h r h' (execOp A.eval o) w := by
  simp [cop] at e; obtain ⟨rfl, rfl⟩ := e
  refine out_val H (v' := A.eval X) ?_ hx
  rcases ho with ho | ho <;> simp [execOp, ho]

theorem sim_pick (H : Inv K ι h w) {C X Y : Operand} {c x y : CX} (hc : VR ι (c.ev a) (A.eval C)) (hx : VR ι (x.ev a) (A.eval X)) (hy : VR ι (y.ev a) (A.eval Y)) {o : Oper} (ho : o.op = .pick C X Y) {r : CRes} {h' : Heap}
    (e : cop (.pick c x y) a h = some (r, h')) : OutQ P ι h r h' (execOp A.eval o) w := by
  simp only [cop] at e
  split at e
  · next b hb =>
    simp at e; obtain ⟨rfl, rfl⟩ := e
    rw [hb] at hc
    generalize hC : A.eval C = C' at hc
    cases hc
    refine out_val H (v' := if b then A.eval X else A.eval Y) ?_ (by split <;> assumption)
    simp [execOp, ho, hC, asBool]
  · simp at e

theorem sim_new (H : Inv K ι h w) {t : TypeId} {zv : Value} {zero : List CVal} (hz : (zeroValue t).run P w = .ok zv w) (R : VRs ι zero zv.cells.toList) (h1 : zero.all CVal.one = true) {o : Oper} (ho : o.op = .alloc t) {id : Nat} {v : CVal} {obj : CObj}
    (e : allocC (.new zero) a id = some (v, obj)) : AOut P K ι id v obj (execOp A.eval o) w := by
  simp [allocC] at e; obtain ⟨rfl, rfl⟩ := e
  refine aout_new H (elem := t) R h1 ?_
  simp [execOp, ho, Instr.alloc, hz, newVar, Result.andThen]

theorem sim_box (H : Inv K ι h w) {t : TypeId} {X : Operand} {x : CX} (hx : VR ι (x.ev a) (A.eval X)) {o : Oper} (ho : o.op = .box t X) {id : Nat} {v : CVal} {obj : CObj}
    (e : allocC (.box x) a id = some (v, obj)) : AOut P K ι id v obj (execOp A.eval o) w := by
  simp only [allocC] at e
  split at e
  · next cs hcs =>
    simp at e; obtain ⟨rfl, rfl⟩ := e
    obtain ⟨R, h1⟩ := hx.cells hcs
    refine aout_new H (elem := t) R h1 ?_
    simp [execOp, ho, Instr.box, newVar, Result.andThen]
  · simp at e

theorem sim_load (H : Inv K ι h w) {t : TypeId} {agg : Bool} {n : Nat} (hag : (isAgg t).run P w = .ok agg w) (hn : agg = true → (sizeOf t).run P w = .ok n w) {X : Operand} {x : CX} (hx : VR ι (x.ev a) (A.eval X)) {o : Oper} (ho : o.op = .load t X)
    {r : CRes} {h' : Heap} (e : cop (.load agg n x) a h = some (r, h')) : OutQ P ι h r h' (execOp A.eval o) w := by
  simp only [cop] at e
  split at e
  · next i off hev =>
    rw [hev] at hx
    generalize hX : A.eval X = X' at hx
    cases hx with
    | ptr _ _ b β ex hi =>
      split at e
      · next vs wr opn hget =>
        cases agg with
        | true =>
          simp at e
          obtain ⟨hl, rfl, rfl⟩ := e
          obtain ⟨us', hrun, R⟩ := H.loads (P := P) (n := n) hget rfl (by simpa using hl) hi
          have hrun : (loadCells ⟨b, β + off, none⟩ n).run P w = .ok us' w := hrun w.drawn
          refine out_val H (v' := .agg us') ?_ (.agg _ _ R)
          simp [execOp, ho, hX, Instr.loadAt, Instr.sureAddr, loadVar, hag, hn rfl, hrun, Result.andThen]
        | false =>
          simp at e
          split at e
          · next v hv =>
            simp at e; obtain ⟨rfl, rfl⟩ := e
            obtain ⟨v', hc, hv'⟩ := H.load hget hv hi
            refine out_val H (v' := v') ?_ hv'
            simp [execOp, ho, hX, Instr.loadAt, Instr.sureAddr, loadVar, hag, run_load hc, Result.andThen]
          · simp at e
      · simp at e
  · simp at e

theorem sim_store (H : Inv K ι h w) {t : TypeId} {n : Nat} (hn : (sizeOf t).run P w = .ok n w) {Y X : Operand} {p x : CX} (hp : VR ι (p.ev a) (A.eval Y)) (hx : VR ι (x.ev a) (A.eval X)) {o : Oper} (ho : o.op = .store t Y X)
    {r : CRes} {h' : Heap} (e : cop (.store n p x) a h = some (r, h')) : Out P K ι r h' (execOp A.eval o) w := by
  simp only [cop] at e
  split at e
  · next i off us hev hus =>
    rw [hev] at hp
    generalize hY : A.eval Y = Y' at hp
    cases hp with
    | ptr _ _ b β ex hi =>
      split at e
      · next vs opn hget =>
        split at e
        · next hl =>
          simp at e; obtain ⟨rfl, rfl⟩ := e
          obtain ⟨R, h1⟩ := hx.cells hus
          obtain ⟨w', hrun, H'⟩ := Inv.stores (P := P) (opn := opn) hi us _ vs off 0 h w H hget (by omega) R (fun u hu => List.all_eq_true.1 h1 u hu)
          have hsz : (A.eval X).cells.size = n := by have := R.length; simp at this; omega
          refine ⟨ι, w', .skip, Emb.le.refl _, ?_, by simpa using H', .tuple _ _ .nil⟩
          simp [execOp, ho, hY, Instr.storeAt, Instr.sureAddr, storeVar, hn, hsz, Result.andThen, hrun]
        · simp at e
      · simp at e
  · simp at e

theorem sim_nilCheck (H : Inv K ι h w) {X : Operand} {x : CX} (hx : VR ι (x.ev a) (A.eval X)) {o : Oper} (ho : o.op = .nilCheck X)
    {r : CRes} {h' : Heap} (e : cop (.nilCheck x) a h = some (r, h')) : OutQ P ι h r h' (execOp A.eval o) w := by
  simp only [cop] at e
  generalize hv : x.ev a = v at e hx
  have key : ∀ v', A.eval X = v' → (execOp A.eval o).run P w = .ok (.value v') w → VR ι v v' → r = .val v → h' = h → OutQ P ι h r h' (execOp A.eval o) w := by
    rintro v' _ h1 h2 rfl rfl; exact out_val H h1 h2
  generalize hX : A.eval X = X' at hx
  cases hx <;> simp at e <;> obtain ⟨rfl, rfl⟩ := e <;> refine key _ hX ?_ (by first | exact .bool _ | exact .int _ _ | exact .str _ | exact .ptr _ _ _ _ _ ‹_› | exact .nilSlice | exact .slice _ _ _ _ _ _ _ _ ‹_› ‹_› ‹_› | exact .nilMap | exact .map _ _ _ _ ‹_› | exact .func _ _ _ _ _ ‹_› ‹_› | exact .yield _ _ _ _ ‹_› | exact .agg _ _ ‹_› | exact .tuple _ _ ‹_›) rfl rfl <;> simp [execOp, ho, hX]

theorem sim_iface (H : Inv K ι h w) {t : TypeId} (ht : ∃ d, P.underlying t = some d ∧ ∀ ms, d ≠ .interface ms) {X : Operand} {x : CX} (hx : VR ι (x.ev a) (A.eval X)) {o : Oper} (ho : o.op = .makeInterface t X)
    {r : CRes} {h' : Heap} (e : cop (.iface t x) a h = some (r, h')) : OutQ P ι h r h' (execOp A.eval o) w := by
  simp [cop] at e; obtain ⟨rfl, rfl⟩ := e
  refine out_val H (v' := .iface t (A.eval X)) ?_ (.iface _ _ _ hx)
  obtain ⟨d, hd, hne⟩ := ht
  simp [execOp, ho, Instr.makeInterface, run_underlying hd, Result.andThen]

theorem sim_func (H : Inv K ι h w) {f : FuncId} {F C : Array Operand} {first cap : List CX} (hf : VRs ι (first.map (·.ev a)) (F.toList.map A.eval)) (hc : VRs ι (cap.map (·.ev a)) (C.toList.map A.eval)) {o : Oper} (ho : o.op = .makeFunc (.func f) F C)
    {r : CRes} {h' : Heap} (e : cop (.func f first cap) a h = some (r, h')) : OutQ P ι h r h' (execOp A.eval o) w := by
  simp [cop] at e; obtain ⟨rfl, rfl⟩ := e
  refine out_val H (v' := .func (.func f) (F.map A.eval) (C.map A.eval)) ?_ (.func _ _ _ _ _ (by simpa using hf) (by simpa using hc))
  simp [execOp, ho, Instr.makeFunc]

theorem sim_newMap (H : Inv K ι h w) {t : TypeId} {R : Option Operand} (hR : (match R with | none => True | some X => ∃ k n, A.eval X = .int k n ∧ ∃ x y, P.underlying t = some (.map x y))) {o : Oper} (ho : o.op = .makeMap t R)
    {id : Nat} {v : CVal} {obj : CObj} (e : allocC .newMap a id = some (v, obj)) : AOut P K ι id v obj (execOp A.eval o) w := by
  simp [allocC] at e; obtain ⟨rfl, rfl⟩ := e
  refine ⟨rfl, .map #[] 0, .map (some w.heap.size), ?_, fun ι' hle hi => ⟨.map _ _ 0 0 hi, w.heap.size, 0, #[], 0, hi, by simp, ⟨.nil, .nil⟩, fun _ hk => ?_⟩⟩
  · cases R with
    | none => simp [execOp, ho, Instr.makeMap, newObj, Sem.run, Result.andThen]
    | some X =>
      obtain ⟨k, n, hX, y, z, hu⟩ := hR
      simp [execOp, ho, Instr.makeMap, newObj, Sem.run, Result.andThen, hX, asInt, asIntOf, run_underlying hu]
  · have := H.hF _ hk; have := H.keep.size; omega

theorem sim_fieldAddr (H : Inv K ι h w) {s : TypeId} {k : Nat} {fields : Array Field} {f : Field} (hs : P.underlying s = some (.struct fields)) (hf : fields[k]? = some f) {n : Nat} (hn : (sizeOf f.type).run P w = .ok n w) (h0 : n ≠ 0) {X : Operand} {x : CX}
    (hx : VR ι (x.ev a) (A.eval X)) {o : Oper} (ho : o.op = .fieldAddr s X k) {r : CRes} {h' : Heap} (e : cop (.fieldAddr f.offset x) a h = some (r, h')) : OutQ P ι h r h' (execOp A.eval o) w := by
  simp only [cop] at e
  split at e
  · next i off hev =>
    simp at e; obtain ⟨rfl, rfl⟩ := e
    rw [hev] at hx
    generalize hX : A.eval X = X' at hx
    cases hx with
    | ptr _ _ b β ex hi =>
      refine out_val H (v' := .pointer (some ⟨b, β + (off + f.offset), none⟩)) ?_ (.ptr _ _ _ _ _ hi)
      simp [execOp, ho, hX, Instr.fieldAt, run_underlying hs, hf, Instr.sureAddr, fieldPlace, hn, h0, add_addr, Result.andThen, Nat.add_assoc]
  · simp at e

theorem partC_sim {w : World} {t : TypeId} {agg : Bool} {n off : Nat} (hag : (isAgg t).run P w = .ok agg w) (hn : agg = true → (sizeOf t).run P w = .ok n w) {cs : List CVal} {cs' : Array Value} (R : VRs ι cs cs'.toList) {v : CVal} (e : partC agg off n cs = some v) :
    ∃ v', (part t cs' off).run P w = .ok v' w ∧ VR ι v v' := by
  unfold partC at e
  cases agg with
  | true =>
    simp at e
    obtain ⟨hl, rfl⟩ := e
    refine ⟨.agg (cs'.extract off (off + n)), by simp [part, hag, hn rfl, Result.andThen], .agg _ _ ?_⟩
    have := (R.drop off).take n
    simpa [Array.toList_extract, List.extract] using this
  | false =>
    simp at e
    obtain ⟨v', h1, h2⟩ := R.get off v e
    refine ⟨v', ?_, h2⟩
    have h3 : cs'[off]? = some v' := by simpa using h1
    simp [part, hag, h3, Result.andThen]

theorem sim_field (H : Inv K ι h w) {s : TypeId} {k : Nat} {fields : Array Field} {f : Field} (hs : P.underlying s = some (.struct fields)) (hf : fields[k]? = some f) {agg : Bool} {n : Nat} (hag : (isAgg f.type).run P w = .ok agg w) (hn : agg = true → (sizeOf f.type).run P w = .ok n w) {X : Operand} {x : CX}
    (hx : VR ι (x.ev a) (A.eval X)) {o : Oper} (ho : o.op = .field s X k) {r : CRes} {h' : Heap} (e : cop (.part agg f.offset n x) a h = some (r, h')) : OutQ P ι h r h' (execOp A.eval o) w := by
  simp only [cop] at e
  split at e
  · next cs hev =>
    rw [hev] at hx
    generalize hX : A.eval X = X' at hx
    cases hx with
    | agg _ cs' R =>
      split at e
      · next v hv =>
        simp at e; obtain ⟨rfl, rfl⟩ := e
        obtain ⟨v', hr, hv'⟩ := partC_sim (P := P) (w := w) hag hn R hv
        refine out_val H (v' := v') ?_ hv'
        simp [execOp, ho, hX, Instr.field, run_underlying hs, hf, asAgg, hr, Result.andThen]
      · simp at e
  · simp at e

theorem asNat_some {v : CVal} {v' : Value} (hv : VR ι v v') {j : Nat} (e : asNat v = some j) : ∃ k, v' = .int k (j : Int) := by
  cases hv <;> simp [asNat] at e
  next k n => exact ⟨k, by rw [← e.2]; simp; omega⟩

theorem sim_indexAddr (H : Inv K ι h w) {t el : TypeId} {sz : Nat} (ht : P.underlying t = some (.slice el)) (hn : (sizeOf el).run P w = .ok sz w) {X I : Operand} {x i : CX} (hx : VR ι (x.ev a) (A.eval X)) (hi : VR ι (i.ev a) (A.eval I)) {o : Oper} (ho : o.op = .indexAddr t X I)
    {r : CRes} {h' : Heap} (e : cop (.indexAddr sz x i) a h = some (r, h')) : OutQ P ι h r h' (execOp A.eval o) w := by
  simp only [cop] at e
  split at e
  · next b off l c j hev hj =>
    rw [hev] at hx
    obtain ⟨k, hI⟩ := asNat_some hi hj
    split at e
    · next hlt =>
      simp at e; obtain ⟨rfl, rfl⟩ := e
      generalize hX : A.eval X = X' at hx
      cases hx with
      | slice _ _ _ _ b' β ex ad hi ha hlc =>
        obtain rfl : ad = ⟨b', β + off, none⟩ := ha.resolve_right (by omega)
        refine out_val H (v' := .pointer (some ⟨b', β + (off + j * sz), none⟩)) ?_ (.ptr _ _ _ _ _ hi)
        have hj0 : (0 : Int) ≤ j ∧ (j : Int) < l := by omega
        simp [execOp, ho, hX, hI, Instr.indexAt, asIntOf, run_underlying ht, hn, hlt, add_addr, Result.andThen, Nat.add_assoc]
    · simp at e
  · simp at e

theorem sim_indexAddrArr (H : Inv K ι h w) {t el : TypeId} {len sz : Nat} (ht : P.underlying t = some (.array len el)) (hn : (sizeOf el).run P w = .ok sz w) {X I : Operand} {x i : CX} (hx : VR ι (x.ev a) (A.eval X)) (hi : VR ι (i.ev a) (A.eval I)) {o : Oper} (ho : o.op = .indexAddr t X I)
    {r : CRes} {h' : Heap} (e : cop (.indexAddrArr len sz x i) a h = some (r, h')) : OutQ P ι h r h' (execOp A.eval o) w := by
  simp only [cop] at e
  split at e
  · next b off j hev hj =>
    rw [hev] at hx
    obtain ⟨k, hI⟩ := asNat_some hi hj
    split at e
    · next hlt =>
      simp at e; obtain ⟨rfl, rfl⟩ := e
      generalize hX : A.eval X = X' at hx
      cases hx with
      | ptr _ _ b' β ex hi =>
        refine out_val H (v' := .pointer (some ⟨b', β + (off + j * sz), none⟩)) ?_ (.ptr _ _ _ _ _ hi)
        simp [execOp, ho, hX, hI, Instr.indexAt, Instr.sureAddr, asIntOf, run_underlying ht, hn, hlt, add_addr, Result.andThen, Nat.add_assoc]
    · simp at e
  · simp at e

theorem sim_indexArr (H : Inv K ι h w) {t el : TypeId} {len sz : Nat} {agg : Bool} (ht : P.underlying t = some (.array len el)) (hag : (isAgg el).run P w = .ok agg w) (hn : (sizeOf el).run P w = .ok sz w) {X I : Operand} {x i : CX} (hx : VR ι (x.ev a) (A.eval X)) (hi : VR ι (i.ev a) (A.eval I)) {o : Oper} (ho : o.op = .index t X I)
    {r : CRes} {h' : Heap} (e : cop (.indexArr len agg sz x i) a h = some (r, h')) : OutQ P ι h r h' (execOp A.eval o) w := by
  simp only [cop] at e
  split at e
  · next cs j hev hj =>
    rw [hev] at hx
    obtain ⟨k, hI⟩ := asNat_some hi hj
    split at e
    · next hlt =>
      generalize hX : A.eval X = X' at hx
      cases hx with
      | agg _ cs' R =>
        split at e
        · next v hv =>
          simp at e; obtain ⟨rfl, rfl⟩ := e
          obtain ⟨v', hr, hv'⟩ := partC_sim (P := P) (w := w) hag (fun _ => hn) R hv
          refine out_val H (v' := v') ?_ hv'
          simp [execOp, ho, hX, hI, Instr.index, asIntOf, run_underlying ht, hn, hlt, hr, Result.andThen]
        · simp at e
    · simp at e
  · simp at e

theorem sim_indexStr (H : Inv K ι h w) {t : TypeId} (ht : P.underlying t = some .string) {X I : Operand} {x i : CX} (hx : VR ι (x.ev a) (A.eval X)) (hi : VR ι (i.ev a) (A.eval I)) {o : Oper} (ho : o.op = .index t X I)
    {r : CRes} {h' : Heap} (e : cop (.indexStr x i) a h = some (r, h')) : OutQ P ι h r h' (execOp A.eval o) w := by
  simp only [cop] at e
  split at e
  · next s j hev hj =>
    rw [hev] at hx
    obtain ⟨k, hI⟩ := asNat_some hi hj
    split at e
    · next b hb =>
      simp at e; obtain ⟨rfl, rfl⟩ := e
      generalize hX : A.eval X = X' at hx
      cases hx with
      | str s' =>
        refine out_val H (v' := .int .u8 b.toNat) ?_ (.int _ _)
        have hb' : s'[j]? = some b := by
          simp only [Array.getElem?_toList] at hb
          obtain ⟨hlt, hv⟩ := Array.getElem?_eq_some_iff.1 hb
          have : j < s'.size := hlt
          rw [getElem?_pos s' j this]
          exact congrArg some hv
        simp [execOp, ho, hX, hI, Instr.index, asIntOf, run_underlying ht, hb', Result.andThen]
    · simp at e
  · simp at e

end
end Go.Proofs.YtmppoknfekdbbaaDoor.Cm
