/-
  The clean machine, and what the law's functions do in it: part A of this claim's own texts. No conditions.
-/
import Derived.Below
import Derived.Defers
import Derived.Laws.Strings
import Derived.Laws.Concat
import Derived.Laws.Strings2
import Derived.Laws.StructEq
import Derived.Laws.MakeOwn
namespace Go.Proofs.YtkjdgdkkepmciaaGreat.Cm
inductive CVal where
 | undef
 | bool (b : Bool)
 | int (k : IntKind) (n : Int)
 | str (s : List UInt8)
 | nilPtr
 | ptr (i o : Nat)
 | nilSlice
 | slice (i o len cap : Nat)
 | nilMap
 | map (i : Nat)
 | nilFunc
 | func (f : FuncId) (first cap : List CVal)
 | yield (i : Nat)
 | nilIface
 | iface (t : TypeId) (v : CVal)
 | agg (cs : List CVal)
 | tuple (vs : List CVal)
 deriving Inhabited
mutual
def CVal.beq : CVal → CVal → Bool
 | .undef, .undef | .nilPtr, .nilPtr | .nilSlice, .nilSlice | .nilMap, .nilMap | .nilFunc, .nilFunc | .nilIface, .nilIface => true
 | .bool a, .bool b => a == b
 | .int k n, .int k' n' => k == k' && n == n'
 | .str s, .str t => s == t
 | .ptr i o, .ptr i' o' => i == i' && o == o'
 | .slice i o l c, .slice i' o' l' c' => i == i' && o == o' && l == l' && c == c'
 | .map i, .map i' => i == i'
 | .func f p q, .func f' p' q' => f == f' && CVal.beqs p p' && CVal.beqs q q'
 | .yield i, .yield i' => i == i'
 | .iface t v, .iface t' v' => t == t' && CVal.beq v v'
 | .agg cs, .agg ds => CVal.beqs cs ds
 | .tuple cs, .tuple ds => CVal.beqs cs ds
 | _, _ => false
def CVal.beqs : List CVal → List CVal → Bool
 | [], [] => true
 | v :: vs, u :: us => CVal.beq v u && CVal.beqs vs us
 | _, _ => false
end
mutual
theorem CVal.beq_eq : ∀ {u v : CVal}, CVal.beq u v = true → u = v := by
 intro u v h
 cases u <;> cases v <;> simp [CVal.beq] at h <;> first
  | rfl
  | (subst h; rfl)
  | (obtain ⟨rfl, rfl⟩ := h; rfl)
  | (obtain ⟨⟨⟨rfl, rfl⟩, rfl⟩, rfl⟩ := h; rfl)
  | (obtain ⟨⟨rfl, h1⟩, h2⟩ := h; rw [CVal.beqs_eq h1, CVal.beqs_eq h2])
  | (obtain ⟨rfl, h1⟩ := h; rw [CVal.beq_eq h1])
  | rw [CVal.beqs_eq h]
theorem CVal.beqs_eq : ∀ {us vs : List CVal}, CVal.beqs us vs = true → us = vs
 | [], [], _ => rfl
 | u :: us, v :: vs, h => by
  simp [CVal.beqs] at h
  rw [CVal.beq_eq h.1, CVal.beqs_eq h.2]
 | [], _ :: _, h => by simp [CVal.beqs] at h
 | _ :: _, [], h => by simp [CVal.beqs] at h
end
def CVal.one : CVal → Bool
 | .undef | .agg _ | .tuple _ => false
 | _ => true
abbrev Emb := Nat → Option (Nat × Nat × Nat)
mutual
inductive VR (ι : Emb) : CVal → Value → Prop
 | undef (v : Value) : VR ι .undef v
 | bool (b : Bool) : VR ι (.bool b) (.bool b)
 | int (k : IntKind) (n : Int) : VR ι (.int k n) (.int k n)
 | str (s : ByteArray) : VR ι (.str s.data.toList) (.string s)
 | nilPtr : VR ι .nilPtr (.pointer none)
 | ptr (i o b β e : Nat) : ι i = some (b, β, e) → VR ι (.ptr i o) (.pointer (some ⟨b, β + o, none⟩))
 | nilSlice : VR ι .nilSlice (.slice none 0 0)
 | slice (i o l c b β e : Nat) (a : Addr) : ι i = some (b, β, e) → (a = ⟨b, β + o, none⟩ ∨ c + e = 0) → l ≤ c → VR ι (.slice i o l c) (.slice (some a) l (c + e))
 | nilMap : VR ι .nilMap (.map none)
 | map (i b β e : Nat) : ι i = some (b, β, e) → VR ι (.map i) (.map (some b))
 | nilFunc : VR ι .nilFunc .nilFunc
 | func (f : FuncId) (first cap : List CVal) (first' cap' : Array Value) : VRs ι first first'.toList → VRs ι cap cap'.toList → VR ι (.func f first cap) (.func (.func f) first' cap')
 | yield (i b β e : Nat) : ι i = some (b, β, e) → VR ι (.yield i) (.func (.yield b) #[] #[])
 | nilIface : VR ι .nilIface .nilIface
 | iface (t : TypeId) (v : CVal) (v' : Value) : VR ι v v' → VR ι (.iface t v) (.iface t v')
 | agg (cs : List CVal) (cs' : Array Value) : VRs ι cs cs'.toList → VR ι (.agg cs) (.agg cs')
 | tuple (cs : List CVal) (cs' : Array Value) : VRs ι cs cs'.toList → VR ι (.tuple cs) (.tuple cs')
inductive VRs (ι : Emb) : List CVal → List Value → Prop
 | nil : VRs ι [] []
 | cons (v : CVal) (vs : List CVal) (v' : Value) (vs' : List Value) : VR ι v v' → VRs ι vs vs' → VRs ι (v :: vs) (v' :: vs')
end
def Emb.le (ι ι' : Emb) : Prop := ∀ i x, ι i = some x → ι' i = some x
theorem Emb.le.refl (ι : Emb) : ι.le ι := fun _ _ h => h
theorem Emb.le.trans {ι ι' ι'' : Emb} (h : ι.le ι') (k : ι'.le ι'') : ι.le ι'' := fun i x e => k i x (h i x e)
mutual
theorem VR.mono {ι ι' : Emb} (hι : ι.le ι') : ∀ {v : CVal} {v' : Value}, VR ι v v' → VR ι' v v'
 | _, _, .undef v => .undef v
 | _, _, .bool b => .bool b
 | _, _, .int k n => .int k n
 | _, _, .str s => .str s
 | _, _, .nilPtr => .nilPtr
 | _, _, .ptr i o b β e h => .ptr i o b β e (hι _ _ h)
 | _, _, .nilSlice => .nilSlice
 | _, _, .slice i o l c b β e a h k m => .slice i o l c b β e a (hι _ _ h) k m
 | _, _, .nilMap => .nilMap
 | _, _, .map i b β e h => .map i b β e (hι _ _ h)
 | _, _, .nilFunc => .nilFunc
 | _, _, .func f p q p' q' h k => .func f p q p' q' (VRs.mono hι h) (VRs.mono hι k)
 | _, _, .yield i b β e h => .yield i b β e (hι _ _ h)
 | _, _, .nilIface => .nilIface
 | _, _, .iface t v v' h => .iface t v v' (VR.mono hι h)
 | _, _, .agg cs cs' h => .agg cs cs' (VRs.mono hι h)
 | _, _, .tuple cs cs' h => .tuple cs cs' (VRs.mono hι h)
theorem VRs.mono {ι ι' : Emb} (hι : ι.le ι') : ∀ {vs : List CVal} {vs' : List Value}, VRs ι vs vs' → VRs ι' vs vs'
 | _, _, .nil => .nil
 | _, _, .cons v vs v' vs' h k => .cons v vs v' vs' (VR.mono hι h) (VRs.mono hι k)
end
section
variable {ι : Emb}
theorem VRs.length {vs : List CVal} {vs' : List Value} : VRs ι vs vs' → vs.length = vs'.length
 | .nil => rfl
 | .cons _ _ _ _ _ k => by simp [VRs.length k]
theorem VRs.get {vs : List CVal} {vs' : List Value} : VRs ι vs vs' → ∀ (j : Nat) (v : CVal), vs[j]? = some v → ∃ v', vs'[j]? = some v' ∧ VR ι v v'
 | .nil, j, v, h => by simp at h
 | .cons _ _ v' _ h k, 0, v, e => ⟨v', rfl, by simp at e; exact e ▸ h⟩
 | .cons _ _ _ _ h k, j + 1, v, e => by
  obtain ⟨v', h1, h2⟩ := VRs.get k j v (by simpa using e)
  exact ⟨v', by simpa using h1, h2⟩
theorem VRs.of_get : ∀ {vs : List CVal} {vs' : List Value}, vs.length = vs'.length → (∀ (j : Nat) (v : CVal) (v' : Value), vs[j]? = some v → vs'[j]? = some v' → VR ι v v') → VRs ι vs vs'
 | [], [], _, _ => .nil
 | v :: vs, v' :: vs', hl, h => .cons _ _ _ _ (h 0 v v' rfl rfl) (VRs.of_get (by simpa using hl) fun j x x' e e' => h (j + 1) x x' (by simpa using e) (by simpa using e'))
theorem VRs.append {vs us : List CVal} {vs' us' : List Value} : VRs ι vs vs' → VRs ι us us' → VRs ι (vs ++ us) (vs' ++ us')
 | .nil, k => k
 | .cons _ _ _ _ h h', k => .cons _ _ _ _ h (h'.append k)
theorem VRs.set {vs : List CVal} {vs' : List Value} {v : CVal} {v' : Value} (hv : VR ι v v') : VRs ι vs vs' → ∀ j, VRs ι (vs.set j v) (vs'.set j v')
 | .nil, _ => .nil
 | .cons _ _ _ _ _ k, 0 => .cons _ _ _ _ hv k
 | .cons _ _ _ _ h k, j + 1 => .cons _ _ _ _ h (k.set hv j)
theorem VRs.take {vs : List CVal} {vs' : List Value} : VRs ι vs vs' → ∀ n, VRs ι (vs.take n) (vs'.take n)
 | .nil, _ => by simp; exact .nil
 | .cons _ _ _ _ _ _, 0 => .nil
 | .cons _ _ _ _ h k, n + 1 => .cons _ _ _ _ h (k.take n)
theorem VRs.drop {vs : List CVal} {vs' : List Value} : VRs ι vs vs' → ∀ n, VRs ι (vs.drop n) (vs'.drop n)
 | .nil, _ => by simp; exact .nil
 | .cons _ _ _ _ h k, 0 => .cons _ _ _ _ h k
 | .cons _ _ _ _ _ k, n + 1 => by simpa using k.drop n
theorem VRs.map_of {α : Type} (f : α → CVal) (g : α → Value) : ∀ (l : List α), (∀ x ∈ l, VR ι (f x) (g x)) → VRs ι (l.map f) (l.map g)
 | [], _ => .nil
 | x :: l, h => .cons _ _ _ _ (h x (by simp)) (VRs.map_of f g l fun y hy => h y (by simp [hy]))
def oneV : Value → Bool
 | .agg _ | .tuple _ => false
 | _ => true
theorem VR.one {v : CVal} {v' : Value} (h : VR ι v v') (ho : v.one = true) : oneV v' = true := by
 cases h <;> first | rfl | simp [CVal.one] at ho
end
inductive CJ where
 | exit (id : Nat)
 | ret
 | goto (l : Nat)
 deriving Inhabited
inductive CObj where
 | cells (vs : List CVal) (wr : Bool) (opn : Option Nat)
 | map (es : List (CVal × CVal)) (wr : Bool) (st : Option (List Nat × Nat))
 | iter (s : List UInt8) (pos : Nat)
 | loop (st : LoopState) (pend : Option CJ) (fn k np : Nat) (tmps : List CVal) (d : Nat)
 | dfr
 | kbox (v : CVal)
 deriving Inhabited
inductive Tr where
 | nil
 | node (v : Option CObj) (l r : Tr)
 deriving Inhabited
def Tr.get : Tr → Nat → Option CObj
 | .nil, _ => none
 | .node v _ _, 0 => v
 | .node _ l r, k + 1 => match k % 2 with
  | 0 => l.get (k / 2)
  | _ => r.get (k / 2)
def Tr.set : Nat → Tr → Nat → Option CObj → Tr
 | 0, t, _, _ => t
 | f + 1, t, i, o =>
  match t with
  | .nil => match i with
   | 0 => .node o .nil .nil
   | k + 1 => match k % 2 with
    | 0 => .node none (Tr.set f .nil (k / 2) o) .nil
    | _ => .node none .nil (Tr.set f .nil (k / 2) o)
  | .node v l r => match i with
   | 0 => .node o l r
   | k + 1 => match k % 2 with
    | 0 => .node v (Tr.set f l (k / 2) o) r
    | _ => .node v l (Tr.set f r (k / 2) o)
theorem Tr.get_nil (i : Nat) : Tr.nil.get i = none := by cases i <;> rfl
theorem Tr.get_succ (v : Option CObj) (l r : Tr) (k : Nat) : (Tr.node v l r).get (k + 1) = if k % 2 = 0 then l.get (k / 2) else r.get (k / 2) := by
 simp only [Tr.get]
 split
 ·next h => simp [h]
 ·next h => rw [if_neg (fun e => h e)]
theorem Tr.get_set : ∀ (f : Nat) (t : Tr) (i j : Nat) (o : Option CObj), i < f → (Tr.set f t i o).get j = if j = i then o else t.get j
 | 0, _, _, _, _, h => by omega
 | f + 1, .nil, 0, j, o, _ => by
  cases j with
  | zero => simp [Tr.set, Tr.get]
  | succ j => simp [Tr.set, Tr.get_succ, Tr.get_nil]
 | f + 1, .nil, i + 1, j, o, h => by
  simp only [Tr.set]
  cases j with
  | zero => split <;> simp [Tr.get]
  | succ j =>
   split
   ·next hm =>
    rw [Tr.get_succ]
    by_cases hj : j % 2 = 0
    ·rw [if_pos hj, Tr.get_set f _ _ _ _ (by omega)]
     by_cases e : j = i
     ·subst e; simp
     ·rw [if_neg (by omega), if_neg (by omega), Tr.get_nil, Tr.get_nil]
    ·rw [if_neg hj, Tr.get_nil, if_neg (by omega), Tr.get_nil]
   ·next hm =>
    have hm' : i % 2 = 1 := by have : i % 2 ≠ 0 := fun e => hm e; omega
    rw [Tr.get_succ]
    by_cases hj : j % 2 = 0
    ·rw [if_pos hj, Tr.get_nil, if_neg (by omega), Tr.get_nil]
    ·rw [if_neg hj, Tr.get_set f _ _ _ _ (by omega)]
     by_cases e : j = i
     ·subst e; simp
     ·rw [if_neg (by omega), if_neg (by omega), Tr.get_nil, Tr.get_nil]
 | f + 1, .node v l r, 0, j, o, _ => by
  cases j with
  | zero => simp [Tr.set, Tr.get]
  | succ j => simp [Tr.set, Tr.get_succ]
 | f + 1, .node v l r, i + 1, j, o, h => by
  simp only [Tr.set]
  cases j with
  | zero => split <;> simp [Tr.get]
  | succ j =>
   split
   ·next hm =>
    rw [Tr.get_succ, Tr.get_succ]
    by_cases hj : j % 2 = 0
    ·rw [if_pos hj, if_pos hj, Tr.get_set f _ _ _ _ (by omega)]
     by_cases e : j = i
     ·subst e; simp
     ·rw [if_neg (by omega), if_neg (by omega)]
    ·rw [if_neg hj, if_neg hj, if_neg (by omega)]
   ·next hm =>
    have hm' : i % 2 = 1 := by have : i % 2 ≠ 0 := fun e => hm e; omega
    rw [Tr.get_succ, Tr.get_succ]
    by_cases hj : j % 2 = 0
    ·rw [if_pos hj, if_pos hj, if_neg (by omega)]
    ·rw [if_neg hj, if_neg hj, Tr.get_set f _ _ _ _ (by omega)]
     by_cases e : j = i
     ·subst e; simp
     ·rw [if_neg (by omega), if_neg (by omega)]
structure Heap where
 next : Nat
 t : Tr
 deriving Inhabited
def Heap.get (h : Heap) (i : Nat) : Option CObj := h.t.get i
def Heap.put (h : Heap) (i : Nat) (o : Option CObj) : Heap := { h with t := Tr.set (i + 1) h.t i o }
def Heap.set (h : Heap) (i : Nat) (o : CObj) : Heap := h.put i (some o)
def Heap.kill (h : Heap) (i : Nat) : Heap := h.put i none
def Heap.new (h : Heap) (o : CObj) : Heap := { next := h.next + 1, t := Tr.set (h.next + 1) h.t h.next (some o) }
section
variable (h : Heap) (i j : Nat) (o : CObj)
theorem Heap.get_put (x : Option CObj) : (h.put i x).get j = if j = i then x else h.get j := Tr.get_set _ _ _ _ _ (by omega)
theorem Heap.get_set : (h.set i o).get j = if j = i then some o else h.get j := h.get_put i j _
theorem Heap.get_kill : (h.kill i).get j = if j = i then none else h.get j := h.get_put i j _
theorem Heap.get_new : (h.new o).get j = if j = h.next then some o else h.get j := Tr.get_set _ _ _ _ _ (by omega)
@[simp] theorem Heap.get_set_same : (h.set i o).get i = some o := by simp [Heap.get_set]
@[simp] theorem Heap.get_new_same : (h.new o).get h.next = some o := by simp [Heap.get_new]
theorem Heap.get_set_ne (e : j ≠ i) : (h.set i o).get j = h.get j := by simp [Heap.get_set, e]
theorem Heap.get_new_ne (e : j ≠ h.next) : (h.new o).get j = h.get j := by simp [Heap.get_new, e]
@[simp] theorem Heap.next_set : (h.set i o).next = h.next := rfl
@[simp] theorem Heap.next_kill : (h.kill i).next = h.next := rfl
@[simp] theorem Heap.next_new : (h.new o).next = h.next + 1 := rfl
end
end Go.Proofs.YtkjdgdkkepmciaaGreat.Cm
namespace Go.Proofs.YtkjdgdkkepmciaaGreat.Cm
open Go.RowKit
def CellsR (ι : Emb) (vs : List CVal) (C : Array Value) (β : Nat) : Prop :=
 ∀ (j : Nat) (v : CVal), vs[j]? = some v → v.one = true ∧ ∃ v', C[β + j]? = some v' ∧ VR ι v v'
def EsR (ι : Emb) (es : List (CVal × CVal)) (E : List MapEntry) : Prop :=
 VRs ι (es.map (·.1)) (E.map (·.key)) ∧ VRs ι (es.map (·.2)) (E.map (·.val))
def stR (st : Option (List Nat × Nat)) (E : Array MapEntry) (clock : Nat) : Prop := match st with
 | none => True
 | some (bs, c) => E.toList.map (·.born) = bs ∧ clock = c
def stPush (st : Option (List Nat × Nat)) : Option (List Nat × Nat) := match st with
 | none => none
 | some (bs, c) => some (bs ++ [c], c + 1)
def stErase (st : Option (List Nat × Nat)) (j : Nat) : Option (List Nat × Nat) := match st with
 | none => none
 | some (bs, c) => some (bs.eraseIdx j, c)
def CObj.wr : CObj → Bool
 | .cells _ wr _ => wr
 | .map _ wr _ => wr
 | .iter .. => true
 | .loop .. => true
 | .dfr => true
 | .kbox _ => false
structure Gl where
 n : Nat
 fact : World → Prop
 mod : Nat → Nat → Option (Array Tmp × Code × Code)
structure Ctx where
 w₀ : World
 F : Nat → Prop
 glb : Gl
 G : Nat → Prop
 N : Nat → Prop
 U : Nat → Prop
structure Keeps (F : Nat → Prop) (w w' : World) : Prop where
 os : w'.os = w.os
 tape : w'.tape = w.tape
 output : w'.output = w.output
 size : w.heap.size ≤ w'.heap.size
 block : ∀ k, F k → w'.heap[k]? = w.heap[k]?
theorem Keeps.over {F F' : Nat → Prop} {w₀ w w' : World} (a : Keeps F w₀ w) (b : Keeps F' w w') (h : ∀ k, F k → F' k) : Keeps F w₀ w' :=
 ⟨b.os.trans a.os, b.tape.trans a.tape, b.output.trans a.output, Nat.le_trans a.size b.size, fun k hk => (b.block k (h k hk)).trans (a.block k hk)⟩
abbrev Mod := Nat → Nat → Option (Array Tmp × Code × Code)
def CJ.code : CJ → Code
 | .exit id => .exit id
 | .ret => .ret
 | .goto l => .goto l
def ObjR (ι : Emb) (w : World) (M : Mod) (F : Nat → Prop) (i : Nat) : CObj → Prop
 | .cells vs wr opn => ∃ (b β e : Nat) (C : Array Value) (el : TypeId) (lo hi : Nat), ι i = some (b, β, e) ∧ w.heap[b]? = some (.cells C el (lo, hi)) ∧ CellsR ι vs C β ∧
   (opn = none → e = 0) ∧ (wr = true → ¬ F b ∧ ∀ j, j < vs.length + e * opn.getD 0 → β + j < C.size ∧ ¬ (lo ≤ β + j ∧ β + j < hi))
 | .map es wr st => ∃ (b e : Nat) (E : Array MapEntry) (clock : Nat), ι i = some (b, 0, e) ∧ w.heap[b]? = some (.map E clock) ∧ EsR ι es E.toList ∧ stR st E clock ∧ (wr = true → ¬ F b)
 | .iter s pos => ∃ (b e : Nat) (s' : ByteArray), ι i = some (b, 0, e) ∧ w.heap[b]? = some (.stringIter s' pos) ∧ s'.data.toList = s ∧ ¬ F b
 | .loop st pend fn k np tmps d => ∃ (b e : Nat) (r : Loop) (bd ed : Nat), ι i = some (b, 0, e) ∧ w.heap[b]? = some (.loop r) ∧ ¬ F b ∧ M fn k = some (r.params, r.assign, r.body) ∧ r.params.size = np ∧ r.state = st ∧
   r.pending = pend.map CJ.code ∧ VRs ι tmps r.tmps.toList ∧ ι d = some (bd, 0, ed) ∧ r.defers = bd
 | .dfr => ∃ (b e : Nat), ι i = some (b, 0, e) ∧ w.heap[b]? = some (.deferred (some [])) ∧ ¬ F b
 | .kbox v => ∃ (b e : Nat) (v' : Value) (C : Array Value) (el : TypeId) (fz : Nat × Nat), ι i = some (b, 0, e) ∧ w.heap[b]? = some (.cells C el fz) ∧ C[0]? = some v' ∧ VR ι v v'
theorem CellsR.mono {ι ι' : Emb} (hι : ι.le ι') {vs : List CVal} {C : Array Value} {β : Nat} (h : CellsR ι vs C β) : CellsR ι' vs C β := fun j v e =>
 let ⟨h1, v', h2, h3⟩ := h j v e; ⟨h1, v', h2, h3.mono hι⟩
theorem EsR.mono {ι ι' : Emb} (hι : ι.le ι') {es : List (CVal × CVal)} {E : List MapEntry} (h : EsR ι es E) : EsR ι' es E := ⟨h.1.mono hι, h.2.mono hι⟩
theorem ObjR.mono {ι ι' : Emb} {w w' : World} {M : Mod} {F : Nat → Prop} {i : Nat} {o : CObj} (hι : ι.le ι') (hw : ∀ b β e, ι i = some (b, β, e) → w'.heap[b]? = w.heap[b]?) (h : ObjR ι w M F i o) : ObjR ι' w' M F i o := by
 cases o with
 | cells vs wr opn =>
  obtain ⟨b, β, e, C, el, lo, hi, h1, h2, h3, h4, h5⟩ := h
  exact ⟨b, β, e, C, el, lo, hi, hι _ _ h1, (hw _ _ _ h1).trans h2, h3.mono hι, h4, h5⟩
 | map es wr st =>
  obtain ⟨b, e, E, c, h1, h2, h3, hs, h4⟩ := h
  exact ⟨b, e, E, c, hι _ _ h1, (hw _ _ _ h1).trans h2, h3.mono hι, hs, h4⟩
 | iter s pos =>
  obtain ⟨b, e, s', h1, h2, h3⟩ := h
  exact ⟨b, e, s', hι _ _ h1, (hw _ _ _ h1).trans h2, h3⟩
 | loop st pend fn k np tmps d =>
  obtain ⟨b, e, r, bd, ed, h1, h2, h3, h4, h5, h6, h7, h8, h9, h10⟩ := h
  exact ⟨b, e, r, bd, ed, hι _ _ h1, (hw _ _ _ h1).trans h2, h3, h4, h5, h6, h7, h8.mono hι, hι _ _ h9, h10⟩
 | dfr =>
  obtain ⟨b, e, h1, h2, h3⟩ := h
  exact ⟨b, e, hι _ _ h1, (hw _ _ _ h1).trans h2, h3⟩
 | kbox v =>
  obtain ⟨b, e, v', C, el, fz, h1, h2, h3, h4⟩ := h
  exact ⟨b, e, v', C, el, fz, hι _ _ h1, (hw _ _ _ h1).trans h2, h3, h4.mono hι⟩
theorem ObjR.blk {ι : Emb} {w : World} {M : Mod} {F : Nat → Prop} {i : Nat} {o : CObj} (h : ObjR ι w M F i o) : ∃ b β e, ι i = some (b, β, e) ∧ b < w.heap.size ∧ (o.wr = true → ¬ F b) := by
 cases o with
 | cells vs wr opn =>
  obtain ⟨b, β, e, C, el, lo, hi, h1, h2, h3, h4, h5⟩ := h
  exact ⟨b, β, e, h1, (Array.getElem?_eq_some_iff.1 h2).1, fun hw => (h5 hw).1⟩
 | map es wr st =>
  obtain ⟨b, e, E, c, h1, h2, h3, hs, h4⟩ := h
  exact ⟨b, 0, e, h1, (Array.getElem?_eq_some_iff.1 h2).1, h4⟩
 | iter s pos =>
  obtain ⟨b, e, s', h1, h2, h3, h4⟩ := h
  exact ⟨b, 0, e, h1, (Array.getElem?_eq_some_iff.1 h2).1, fun _ => h4⟩
 | loop st pend fn k np tmps d =>
  obtain ⟨b, e, r, bd, ed, h1, h2, h3, _⟩ := h
  exact ⟨b, 0, e, h1, (Array.getElem?_eq_some_iff.1 h2).1, fun _ => h3⟩
 | dfr =>
  obtain ⟨b, e, h1, h2, h3⟩ := h
  exact ⟨b, 0, e, h1, (Array.getElem?_eq_some_iff.1 h2).1, fun _ => h3⟩
 | kbox v =>
  obtain ⟨b, e, v', C, el, fz, h1, h2, h3, h4⟩ := h
  exact ⟨b, 0, e, h1, (Array.getElem?_eq_some_iff.1 h2).1, fun hw => by simp [CObj.wr] at hw⟩
structure Inv (K : Ctx) (ι : Emb) (h : Heap) (w : World) : Prop where
 hF : ∀ k, K.F k → k < K.w₀.heap.size
 keep : Keeps K.F K.w₀ w
 glob : ∀ g, g < K.glb.n → ι g = some (g, 0, 0)
 obj : ∀ (i : Nat) (o : CObj), h.get i = some o → ObjR ι w K.glb.mod K.F i o
 excl : ∀ (i j : Nat) (oi oj : CObj) (b β e b' β' e' : Nat), i ≠ j → h.get i = some oi → h.get j = some oj → oi.wr = true → ι i = some (b, β, e) → ι j = some (b', β', e') → b ≠ b'
 fresh : ∀ i, h.next ≤ i → ι i = none ∧ h.get i = none
 inb : ∀ (i b β e : Nat), ι i = some (b, β, e) → b < w.heap.size
 hG : (∀ b, K.G b → K.F b) ∧ ∀ w', Keeps K.F K.w₀ w' → K.glb.fact w'
 hid : ∀ (i : Nat) (o : CObj) (b β e : Nat), h.get i = some o → ι i = some (b, β, e) → ¬ K.G b
 nev : ∀ i, K.N i → i < h.next ∧ h.get i = none
 nul : ∀ i, K.U i → i < h.next ∧ ι i = none
def Emb.put (ι : Emb) (i : Nat) (x : Nat × Nat × Nat) : Emb := fun j => if j = i then some x else ι j
theorem Emb.put_same (ι : Emb) (i : Nat) (x : Nat × Nat × Nat) : ι.put i x i = some x := by simp [Emb.put]
theorem Emb.put_ne (ι : Emb) (i : Nat) (x : Nat × Nat × Nat) (j : Nat) (h : j ≠ i) : ι.put i x j = ι j := by simp [Emb.put, h]
theorem Emb.le_put (ι : Emb) (i : Nat) (x : Nat × Nat × Nat) (h : ι i = none) : ι.le (ι.put i x) := fun j y e => by
 by_cases hj : j = i
 ·subst hj; rw [h] at e; simp at e
 ·rw [Emb.put_ne _ _ _ _ hj]; exact e
section
variable {K : Ctx} {ι : Emb} {h : Heap} {w : World}
theorem Inv.drawn (H : Inv K ι h w) (n : Nat) : Inv K ι h { w with drawn := n } :=
 ⟨H.hF, ⟨H.keep.os, H.keep.tape, H.keep.output, H.keep.size, H.keep.block⟩, H.glob, fun i o e => (H.obj i o e).mono (Emb.le.refl _) (fun _ _ _ _ => rfl), H.excl, H.fresh, H.inb, H.hG, H.hid, H.nev, H.nul⟩
theorem Inv.new (H : Inv K ι h w) (o : CObj) (O : Obj) (e : Nat) (n : Nat)
  (ho : ObjR (ι.put h.next (w.heap.size, 0, e)) { w with heap := w.heap.push O, drawn := n } K.glb.mod K.F h.next o) :
  Inv K (ι.put h.next (w.heap.size, 0, e)) (h.new o) { w with heap := w.heap.push O, drawn := n } := by
 have hfr := (H.fresh h.next (Nat.le_refl _)).1
 have hle := ι.le_put h.next (w.heap.size, 0, e) hfr
 have hold : ∀ b, b < w.heap.size → (w.heap.push O)[b]? = w.heap[b]? := fun b hb => by rw [Array.getElem?_push, if_neg (by omega)]
 refine ⟨H.hF, ⟨H.keep.os, H.keep.tape, H.keep.output, by have := H.keep.size; simp; omega, fun k hk => ?_⟩, fun g hg => hle _ _ (H.glob g hg), ?_, ?_, ?_, ?_, H.hG, ?_, fun i hi => ?_, fun i hi => ?_⟩
 ·show (w.heap.push O)[k]? = _
  have := H.keep.size
  have := H.hF k hk
  rw [hold k (by omega)]; exact H.keep.block k hk
 ·intro i oi hi
  rw [Heap.get_new] at hi
  by_cases e1 : i = h.next
  ·subst e1; simp at hi; subst hi; exact ho
  ·rw [if_neg e1] at hi
   exact (H.obj i oi hi).mono hle fun b β e2 he => hold b (H.inb _ _ _ _ he)
 ·intro i j oi oj b β e1 b' β' e2 hne hi hj hw hbi hbj
  rw [Heap.get_new] at hi hj
  by_cases i1 : i = h.next
  ·subst i1
   rw [Emb.put_same] at hbi; simp at hbi
   rw [Emb.put_ne _ _ _ _ (Ne.symm hne)] at hbj
   have := H.inb _ _ _ _ hbj
   omega
  ·by_cases j1 : j = h.next
   ·subst j1
    rw [Emb.put_same] at hbj; simp at hbj
    rw [Emb.put_ne _ _ _ _ hne] at hbi
    have := H.inb _ _ _ _ hbi
    omega
   ·rw [if_neg i1] at hi; rw [if_neg j1] at hj
    rw [Emb.put_ne _ _ _ _ i1] at hbi; rw [Emb.put_ne _ _ _ _ j1] at hbj
    exact H.excl i j oi oj b β e1 b' β' e2 hne hi hj hw hbi hbj
 ·intro i hi
  simp at hi
  rw [Emb.put_ne _ _ _ _ (by omega), Heap.get_new_ne _ _ _ (by omega)]
  exact H.fresh i (by omega)
 ·intro i b β e1 hb
  simp
  by_cases i1 : i = h.next
  ·subst i1; rw [Emb.put_same] at hb; simp at hb; omega
  ·rw [Emb.put_ne _ _ _ _ i1] at hb; have := H.inb _ _ _ _ hb; omega
 ·intro i oi b β e1 hi hb hg
  rw [Heap.get_new] at hi
  by_cases i1 : i = h.next
  ·subst i1
   rw [Emb.put_same] at hb; simp at hb
   have := H.hF _ (H.hG.1 _ hg); have := H.keep.size; omega
  ·rw [if_neg i1] at hi; rw [Emb.put_ne _ _ _ _ i1] at hb
   exact H.hid i oi b β e1 hi hb hg
 ·obtain ⟨h1, h2⟩ := H.nev i hi
  exact ⟨by simp; omega, by rw [Heap.get_new_ne _ _ _ (by omega)]; exact h2⟩
 ·obtain ⟨h1, h2⟩ := H.nul i hi
  exact ⟨by simp; omega, by rw [Emb.put_ne _ _ _ _ (by omega)]; exact h2⟩
theorem Inv.turn (H : Inv K ι h w) {i : Nat} {o o' : CObj} (hi : h.get i = some o) (hw : o.wr = true) {b β e : Nat} (hb : ι i = some (b, β, e)) (w' : World)
  (hos : w'.os = w.os) (ht : w'.tape = w.tape) (hout : w'.output = w.output) (hsz : w'.heap.size = w.heap.size)
  (hblk : ∀ k, k ≠ b → w'.heap[k]? = w.heap[k]?) (ho : ObjR ι w' K.glb.mod K.F i o') : Inv K ι (h.set i o') w' := by
 have hB : ¬ K.F b := by
  obtain ⟨b1, β1, e1, h1, _, h2⟩ := (H.obj i o hi).blk
  rw [hb] at h1; simp at h1; obtain ⟨rfl, _, _⟩ := h1; exact h2 hw
 refine ⟨H.hF, ⟨hos.trans H.keep.os, ht.trans H.keep.tape, hout.trans H.keep.output, by rw [hsz]; exact H.keep.size, fun k hk => by rw [hblk k (fun e1 => hB (e1 ▸ hk))]; exact H.keep.block k hk⟩, H.glob, ?_, ?_, ?_, ?_, H.hG, ?_, fun j hj => ?_, H.nul⟩
 ·intro j oj hj
  rw [Heap.get_set] at hj
  by_cases e1 : j = i
  ·subst e1; simp at hj; subst hj; exact ho
  ·rw [if_neg e1] at hj
   refine (H.obj j oj hj).mono (Emb.le.refl _) fun b' β' e' hb' => hblk b' fun e2 => ?_
   exact H.excl i j o oj b β e b' β' e' (Ne.symm e1) hi hj hw hb hb' e2.symm
 ·intro j k oj ok b1 β1 e1 b2 β2 e2 hne hj hk hwj hb1 hb2
  rw [Heap.get_set] at hj hk
  by_cases j1 : j = i
  ·subst j1
   rw [if_neg (Ne.symm hne)] at hk
   exact H.excl j k o ok b1 β1 e1 b2 β2 e2 hne hi hk hw hb1 hb2
  ·rw [if_neg j1] at hj
   by_cases k1 : k = i
   ·subst k1
    exact H.excl j k oj o b1 β1 e1 b2 β2 e2 hne hj hi hwj hb1 hb2
   ·rw [if_neg k1] at hk
    exact H.excl j k oj ok b1 β1 e1 b2 β2 e2 hne hj hk hwj hb1 hb2
 ·intro j hj
  have hn := H.fresh j hj
  refine ⟨hn.1, ?_⟩
  rw [Heap.get_set_ne _ _ _ _ (fun e1 => by subst e1; rw [hn.2] at hi; simp at hi)]
  exact hn.2
 ·intro j b1 β1 e1 hb1
  rw [hsz]; exact H.inb _ _ _ _ hb1
 ·intro j oj b1 β1 e1 hj hb1
  rw [Heap.get_set] at hj
  by_cases j1 : j = i
  ·subst j1; exact H.hid j o b1 β1 e1 hi hb1
  ·rw [if_neg j1] at hj; exact H.hid j oj b1 β1 e1 hj hb1
 ·obtain ⟨h1, h2⟩ := H.nev j hj
  refine ⟨h1, ?_⟩
  rw [Heap.get_set_ne _ _ _ _ (fun e1 => by subst e1; rw [h2] at hi; simp at hi)]
  exact h2
theorem Inv.kill (H : Inv K ι h w) (i : Nat) : Inv K ι (h.kill i) w := by
 refine ⟨H.hF, H.keep, H.glob, fun j o hj => ?_, fun j k oj ok b β e b' β' e' hne hj hk => ?_, fun j hj => ⟨(H.fresh j hj).1, ?_⟩, H.inb, H.hG, fun j oj b β e hj => ?_, fun j hj => ⟨(H.nev j hj).1, ?_⟩, H.nul⟩
 ·rw [Heap.get_kill] at hj
  split at hj
  ·simp at hj
  ·exact H.obj j o hj
 ·rw [Heap.get_kill] at hj hk
  split at hj
  ·simp at hj
  ·split at hk
   ·simp at hk
   ·exact H.excl j k oj ok b β e b' β' e' hne hj hk
 ·rw [Heap.get_kill, (H.fresh j hj).2]; simp
 ·rw [Heap.get_kill] at hj
  split at hj
  ·simp at hj
  ·exact H.hid j oj b β e hj
 ·rw [Heap.get_kill, (H.nev j hj).2]; simp
theorem Inv.cells (H : Inv K ι h w) {i : Nat} {vs : List CVal} {wr : Bool} {opn : Option Nat} (hi : h.get i = some (.cells vs wr opn)) {b β e : Nat} (hb : ι i = some (b, β, e)) :
  ∃ C el lo hi', w.heap[b]? = some (.cells C el (lo, hi')) ∧ CellsR ι vs C β ∧ (opn = none → e = 0) ∧
   (wr = true → ¬ K.F b ∧ ∀ j, j < vs.length + e * opn.getD 0 → β + j < C.size ∧ ¬ (lo ≤ β + j ∧ β + j < hi')) := by
 obtain ⟨b1, β1, e1, C, el, lo, hi', h1, h2, h3, h4, h5⟩ := H.obj i _ hi
 rw [hb] at h1; simp at h1; obtain ⟨rfl, rfl, rfl⟩ := h1
 exact ⟨C, el, lo, hi', h2, h3, h4, h5⟩
theorem cell?_of (w : World) {b o : Nat} {C : Array Value} {el : TypeId} {fr : Nat × Nat} (hb : w.heap[b]? = some (.cells C el fr)) : w.cell? ⟨b, o, none⟩ = C[o]? := by
 simp [World.cell?, hb]
theorem Inv.load (H : Inv K ι h w) {i o : Nat} {vs : List CVal} {wr : Bool} {opn : Option Nat} {v : CVal} (hi : h.get i = some (.cells vs wr opn)) (hv : vs[o]? = some v) {b β e : Nat} (hb : ι i = some (b, β, e)) :
  ∃ v', w.cell? ⟨b, β + o, none⟩ = some v' ∧ VR ι v v' := by
 obtain ⟨C, el, lo, hi', h1, h2, _, _⟩ := H.cells hi hb
 obtain ⟨_, v', h3, h4⟩ := h2 o v hv
 exact ⟨v', (cell?_of w h1).trans h3, h4⟩
theorem add_addr (b o n : Nat) : (⟨b, o, none⟩ : Addr).add n = ⟨b, o + n, none⟩ := by unfold Addr.add; split <;> simp_all
theorem run_load {P : Program} {w : World} {a : Addr} {v : Value} (hc : w.cell? a = some v) : (load a).run P w = .ok v w := by
 simp [Go.load, Sem.run, hc]
theorem run_loadCells_of {P : Program} {w : World} (b : Nat) : ∀ (us : List Value) (o i : Nat) (acc : Array Value), (∀ (j : Nat) (u : Value), us[j]? = some u → w.cell? ⟨b, o + i + j, none⟩ = some u) →
  (loadCellsFrom ⟨b, o, none⟩ i us.length acc).run P w = .ok (acc ++ us.toArray) w
 | [], _, _, acc, _ => by simp [loadCellsFrom, Pure.pure]
 | u :: us, o, i, acc, hc => by
  have h0 : w.cell? ⟨b, o + i, none⟩ = some u := by simpa using hc 0 u rfl
  have ih := run_loadCells_of (P := P) b us o (i + 1) (acc.push u) (fun j x hx => by
   have := hc (j + 1) x (by simpa using hx)
   rw [show o + i + (j + 1) = o + (i + 1) + j from by omega] at this
   exact this)
  simp only [List.length_cons, loadCellsFrom, Sem.run_bind, add_addr, run_load h0, Result.andThen]
  rw [ih]
  simp
theorem Inv.loads (H : Inv K ι h w) {P : Program} {i o n : Nat} {vs us : List CVal} {wr : Bool} {opn : Option Nat} (hi : h.get i = some (.cells vs wr opn)) (hus : (vs.drop o).take n = us) (hn : us.length = n) {b β e : Nat} (hb : ι i = some (b, β, e)) :
  ∃ us' : Array Value, (∀ d, (loadCells ⟨b, β + o, none⟩ n).run P { w with drawn := d } = .ok us' { w with drawn := d }) ∧ VRs ι us us'.toList := by
 obtain ⟨C, el, lo, hi', h1, h2, _, _⟩ := H.cells hi hb
 subst hus
 have hl : n ≤ (vs.drop o).length := by simp at hn ⊢; omega
 refine ⟨((C.toList.drop (β + o)).take n).toArray, fun d => ?_, ?_⟩
 ·have hlen : ((C.toList.drop (β + o)).take n).length = n := by
   have hCn : ∀ j, j < n → β + o + j < C.size := fun j hj => by
    have hlt : o + j < vs.length := by simp at hl; omega
    obtain ⟨_, v', h3, _⟩ := h2 (o + j) vs[o + j] (by simp [hlt])
    rw [show β + (o + j) = β + o + j from by omega] at h3
    exact (Array.getElem?_eq_some_iff.1 h3).1
   have : n = 0 ∨ β + o + (n - 1) < C.size := by
    by_cases h0 : n = 0
    ·exact .inl h0
    ·exact .inr (hCn (n - 1) (by omega))
   simp; omega
  have := run_loadCells_of (P := P) (w := { w with drawn := d }) b ((C.toList.drop (β + o)).take n) (β + o) 0 #[] (fun j u hu => by
   rw [cell?_of (C := C) (el := el) (fr := (lo, hi')) { w with drawn := d } h1]
   have hj : j < n := by
    have := (List.getElem?_eq_some_iff.1 hu).1
    omega
   rw [List.getElem?_take_of_lt hj, List.getElem?_drop] at hu
   simpa using hu)
  rw [hlen] at this
  simpa [loadCells] using this
 ·refine VRs.of_get ?_ ?_
  ·have hCn : n = 0 ∨ β + o + (n - 1) < C.size := by
    by_cases h0 : n = 0
    ·exact .inl h0
    ·right
     have hlt : o + (n - 1) < vs.length := by simp at hl; omega
     obtain ⟨_, v', h3, _⟩ := h2 (o + (n - 1)) vs[o + (n - 1)] (by simp [hlt])
     rw [show β + (o + (n - 1)) = β + o + (n - 1) from by omega] at h3
     exact (Array.getElem?_eq_some_iff.1 h3).1
   simp at hn ⊢; omega
  ·intro j v v' hv hv'
   have hj : j < n := by
    have := (List.getElem?_eq_some_iff.1 hv).1
    omega
   rw [List.getElem?_take_of_lt hj, List.getElem?_drop] at hv
   simp only [List.getElem?_take_of_lt hj, List.getElem?_drop] at hv'
   obtain ⟨_, u, h3, h4⟩ := h2 (o + j) v hv
   rw [show β + (o + j) = β + o + j from by omega] at h3
   have : C[β + o + j]? = some v' := by simpa using hv'
   rw [h3] at this; simp at this; subst this; exact h4
theorem Inv.store (H : Inv K ι h w) {P : Program} {i o : Nat} {vs : List CVal} {opn : Option Nat} {v : CVal} {v' : Value} (hi : h.get i = some (.cells vs true opn)) (ho : o < vs.length) (hv : VR ι v v') (h1 : v.one = true)
  {b β e : Nat} (hb : ι i = some (b, β, e)) :
  (Go.store ⟨b, β + o, none⟩ v').run P w = .ok () (w.setCell ⟨b, β + o, none⟩ v') ∧ Inv K ι (h.set i (.cells (vs.set o v) true opn)) (w.setCell ⟨b, β + o, none⟩ v') := by
 obtain ⟨C, el, lo, hi', hC, hR, hop, hwr⟩ := H.cells hi hb
 obtain ⟨hB, hsp⟩ := hwr rfl
 have hlt := (hsp o (by omega)).1
 have hfz := (hsp o (by omega)).2
 have hbl : (w.setCell ⟨b, β + o, none⟩ v').heap[b]? = some (.cells (C.setIfInBounds (β + o) v') el (lo, hi')) := by
  simp [World.setCell, Array.getElem?_modify, hC]
 refine ⟨?_, ?_⟩
 ·have h2 : (w.cell? ⟨b, β + o, none⟩) = some C[β + o] := (cell?_of w hC).trans (by simp [hlt])
  have h3 : w.frozen? ⟨b, β + o, none⟩ = false := by
   simp only [World.frozen?, hC]
   simp only [Bool.and_eq_false_iff, decide_eq_false_iff_not]
   omega
  have h4 := hv.one h1
  cases v' <;> first | (simp [oneV] at h4; done) | simp [Go.store, Sem.run, h2, h3]
 ·refine H.turn (o' := .cells (vs.set o v) true opn) hi rfl hb _ rfl rfl rfl (by simp [World.setCell]) (fun k hk => by simp [World.setCell, Array.getElem?_modify, Ne.symm hk]) ?_
  refine ⟨b, β, e, _, el, lo, hi', hb, hbl, ?_, hop, fun _ => ⟨hB, fun j hj => ?_⟩⟩
  ·intro j u hu
   by_cases e1 : j = o
   ·subst e1
    rw [List.getElem?_set_self ho] at hu
    simp at hu; subst hu
    exact ⟨h1, v', by simp [hlt], hv⟩
   ·rw [List.getElem?_set_ne (Ne.symm e1)] at hu
    obtain ⟨h5, u', h6, h7⟩ := hR j u hu
    exact ⟨h5, u', by rw [Array.getElem?_setIfInBounds_ne (by omega)]; exact h6, h7⟩
  ·have := hsp j (by simpa using hj)
   simpa using this
def putCells (vs : List CVal) (o : Nat) : List CVal → List CVal
 | [] => vs
 | u :: us => putCells (vs.set o u) (o + 1) us
theorem Inv.ext {h' : Heap} (H : Inv K ι h w) (hg : ∀ j, h'.get j = h.get j) (hn : h'.next = h.next) : Inv K ι h' w :=
 ⟨H.hF, H.keep, H.glob, fun i o e => H.obj i o (hg i ▸ e), fun i j oi oj b β e b' β' e' hne hi hj => H.excl i j oi oj b β e b' β' e' hne (hg i ▸ hi) (hg j ▸ hj), fun i hi => by rw [hg i]; exact H.fresh i (hn ▸ hi), H.inb, H.hG, fun i oi b β e hi => H.hid i oi b β e (hg i ▸ hi), fun i hi => by rw [hg i, hn]; exact H.nev i hi, fun i hi => by rw [hn]; exact H.nul i hi⟩
theorem Inv.stores {P : Program} {i : Nat} {opn : Option Nat} {b β e : Nat} (hb : ι i = some (b, β, e)) : ∀ (us : List CVal) (us' : List Value) (vs : List CVal) (o k : Nat) (h : Heap) (w : World), Inv K ι h w → h.get i = some (.cells vs true opn) → o + k + us.length ≤ vs.length →
  VRs ι us us' → (∀ u ∈ us, u.one = true) → ∃ w', (storeCells ⟨b, β + o, none⟩ us' k).run P w = .ok () w' ∧ Inv K ι (h.set i (.cells (putCells vs (o + k) us) true opn)) w'
 | [], _, vs, o, k, h, w, H, hi, _, .nil, _ => by
  refine ⟨w, rfl, H.ext (fun j => ?_) rfl⟩
  rw [Heap.get_set]
  by_cases e1 : j = i
  ·subst e1; simp [hi, putCells]
  ·simp [e1]
 | u :: us, u' :: us', vs, o, k, h, w, H, hi, hl, .cons _ _ _ _ hu hus, h1 => by
  simp at hl
  obtain ⟨hr, H'⟩ := H.store (P := P) (o := o + k) hi (by omega) hu (h1 u (by simp)) hb
  obtain ⟨w', hr', H''⟩ := Inv.stores (P := P) (opn := opn) hb us us' (vs.set (o + k) u) o (k + 1) _ _ H' (by simp) (by simp; omega) hus (fun x hx => h1 x (by simp [hx]))
  refine ⟨w', ?_, H''.ext (fun j => ?_) rfl⟩
  ·simp only [storeCells, Sem.run_bind, add_addr]
   rw [show β + o + k = β + (o + k) from by omega, hr]
   simp only [Result.andThen]
   exact hr'
  ·rw [Heap.get_set, Heap.get_set, Heap.get_set, putCells]
   by_cases e1 : j = i
   ·subst e1; simp; rfl
   ·simp [e1]
end
end Go.Proofs.YtkjdgdkkepmciaaGreat.Cm
namespace Go.Proofs.YtkjdgdkkepmciaaGreat.Cm
inductive CX where
 | t (n : Nat)
 | c (v : CVal)
 deriving Inhabited
def CX.ev (tmps : List CVal) : CX → CVal
 | .t n => tmps.getD n .undef
 | .c v => v
def CVal.un : CVal := .tuple []
inductive Ext where
 | atomicLoad (k : IntKind)
 | atomicStore (k : IntKind)
 | atomicAdd (k : IntKind)
 | atomicCas (k : IntKind)
 | mark0
 | mark1
 | uptr
 deriving DecidableEq, Inhabited
inductive TK where
 | bool | ptr | slice | map | func | iface
 deriving DecidableEq, Inhabited
inductive PK where
 | bool | int | str
 deriving DecidableEq, Inhabited
inductive LK where
 | str | slice | map
 deriving DecidableEq, Inhabited
inductive KT where
 | one (k : PK)
 | flat (ks : List PK)
 deriving Inhabited
inductive COp where
 | move (x : CX)
 | pick (c a b : CX)
 | new (zero : List CVal)
 | box (x : CX)
 | build (zero : List CVal) (parts : List (Nat × Nat × CX))
 | buildSlice (zero : List CVal) (len : Nat) (parts : List (Nat × Nat × CX))
 | load (agg : Bool) (n : Nat) (x : CX)
 | store (n : Nat) (a x : CX)
 | nilCheck (x : CX)
 | bin (op : BinOp) (x y : CX)
 | eq (tk : TK) (neg : Bool) (x y : CX)
 | eqS (ks : List PK) (neg : Bool) (x y : CX)
 | un (op : UnOp) (x : CX)
 | conv (k : IntKind) (x : CX)
 | bytesOf (x : CX)
 | markB (x : CX)
 | strOf (x : CX)
 | iface (t : TypeId) (x : CX)
 | func (f : FuncId) (first cap : List CX)
 | newMap
 | makeSlice (zero : List CVal) (bytes : Nat) (l c : CX)
 | sliceStr (x : CX) (lo hi : Option CX)
 | slice (sz : Nat) (x : CX) (lo hi mx : Option CX)
 | sliceArr (n sz : Nat) (x : CX) (lo hi mx : Option CX)
 | fieldAddr (off : Nat) (x : CX)
 | part (agg : Bool) (off n : Nat) (x : CX)
 | indexAddr (sz : Nat) (x i : CX)
 | indexAddrArr (len sz : Nat) (x i : CX)
 | indexArr (len : Nat) (agg : Bool) (sz : Nat) (x i : CX)
 | indexStr (x i : CX)
 | lookup (kt : KT) (zero : CVal) (ok : Bool) (m k : CX)
 | mapUpdate (kt : KT) (m k v : CX)
 | extract (x : CX) (i : Nat)
 | len (k : LK) (x : CX)
 | append (sz bytes : Nat) (s x : CX)
 | copy (sz : Nat) (d s : CX)
 | delete (kt : KT) (m k : CX)
 | mapEntry (kt : KT) (zero : CVal) (m k : CX)
 | entryStore (m s x : CX)
 | clear (zero : List CVal) (x : CX)
 | maxmin (isMax : Bool) (x : CX) (xs : List CX)
 | call (f : CX) (args : List CX)
 | defer (f : CX) (args : List CX)
 | ext (e : Ext) (args : List CX)
 | rangeStr (x : CX)
 | nextStr (x : CX)
 | appendN (sz bytes : Nat) (zero : List CVal) (s x : CX)
 | invoke (ms : List (TypeId × FuncId)) (x : CX) (args : List CX)
 | assert (t : TypeId) (zero : CVal) (ok : Bool) (x : CX)
 | dead
 deriving Inhabited
inductive CRes where
 | val (v : CVal)
 | enter (f : FuncId) (args : List CVal)
 | defer (f : FuncId) (args : List CVal)
 | round (i : Nat) (args : List CVal)
 deriving Inhabited
def keq : TK → CVal → CVal → Option Bool
 | .bool, .bool a, .bool b => some (a == b)
 | .ptr, .nilPtr, .nilPtr => some true
 | .ptr, .nilPtr, .ptr .. | .ptr, .ptr .., .nilPtr => some false
 | .slice, .nilSlice, .nilSlice => some true
 | .slice, .nilSlice, .slice .. | .slice, .slice .., .nilSlice => some false
 | .map, .nilMap, .nilMap => some true
 | .map, .nilMap, .map _ | .map, .map _, .nilMap => some false
 | .func, .nilFunc, .nilFunc => some true
 | .func, .nilFunc, .func .. | .func, .func .., .nilFunc => some false
 | .iface, .nilIface, .nilIface => some true
 | .iface, .nilIface, .iface .. | .iface, .iface .., .nilIface => some false
 | _, _, _ => none
def peq : PK → CVal → CVal → Option Bool
 | .bool, .bool a, .bool b => some (a == b)
 | .int, .int k a, .int k' b => if k = k' then some (a == b) else none
 | .str, .str a, .str b => some (a == b)
 | _, _, _ => none
def peqs : List PK → List CVal → List CVal → Option Bool
 | [], [], [] => some true
 | k :: ks, a :: as, b :: bs => match peq k a b with
  | some true => peqs ks as bs
  | r => r
 | _, _, _ => none
def keyeq : KT → CVal → CVal → Option Bool
 | .one k, a, b => peq k a b
 | .flat ks, .agg as, .agg bs => peqs ks as bs
 | _, _, _ => none
def keyok : KT → CVal → Bool
 | .one .bool, .bool _ | .one .int, .int .. | .one .str, .str _ => true
 | .flat ks, .agg as => as.length == ks.length && as.all CVal.one
 | _, _ => false
def findK (kt : KT) (k : CVal) : List (CVal × CVal) → Nat → Option (Option (Nat × CVal))
 | [], _ => some none
 | e :: es, i => match keyeq kt k e.1 with
  | some true => some (some (i, e.2))
  | some false => findK kt k es (i + 1)
  | none => none
def bytesLt : List UInt8 → List UInt8 → Bool
 | _, [] => false
 | [], _ :: _ => true
 | a :: x, b :: y => a < b || (a == b && bytesLt x y)
def intBin (op : BinOp) (k : IntKind) (x y : Int) : Option CVal :=
 match op with
 | .add => some (.int k (k.wrap (x + y)))
 | .sub => some (.int k (k.wrap (x - y)))
 | .mul => some (.int k (k.wrap (x * y)))
 | .quo => if y = 0 then none else some (.int k (k.wrap (x.tdiv y)))
 | .rem => if y = 0 then none else some (.int k (x.tmod y))
 | .and => some (.int k (k.wrap ((BitVec.ofInt k.bits x &&& BitVec.ofInt k.bits y).toNat)))
 | .or => some (.int k (k.wrap ((BitVec.ofInt k.bits x ||| BitVec.ofInt k.bits y).toNat)))
 | .xor => some (.int k (k.wrap ((BitVec.ofInt k.bits x ^^^ BitVec.ofInt k.bits y).toNat)))
 | .andNot => some (.int k (k.wrap ((BitVec.ofInt k.bits x &&& ~~~ BitVec.ofInt k.bits y).toNat)))
 | .eql => some (.bool (x == y))
 | .neq => some (.bool (x != y))
 | .lss => some (.bool (x < y))
 | .leq => some (.bool (x ≤ y))
 | .gtr => some (.bool (x > y))
 | .geq => some (.bool (x ≥ y))
 | _ => none
def strBin (op : BinOp) (x y : List UInt8) : Option CVal :=
 match op with
 | .add => if x.length + y.length ≤ 281474976710656 then some (.str (x ++ y)) else none
 | .eql => some (.bool (x == y))
 | .neq => some (.bool !(x == y))
 | .lss => some (.bool (bytesLt x y))
 | .leq => some (.bool (bytesLt x y || x == y))
 | .gtr => some (.bool !(bytesLt x y || x == y))
 | .geq => some (.bool !(bytesLt x y))
 | _ => none
def shiftBin (op : BinOp) (k : IntKind) (x y : Int) : Option CVal :=
 if y < 0 then none else
 match op with
 | .shl => some (.int k (k.wrap (x * 2 ^ (min y.toNat k.bits))))
 | .shr => some (.int k (x.fdiv (2 ^ (min y.toNat k.bits))))
 | _ => none
def binC (op : BinOp) : CVal → CVal → Option CVal
 | .int k a, .int k' b =>
  match op with
  | .shl | .shr => shiftBin op k a b
  | _ => if k = k' then intBin op k a b else none
 | .str a, .str b => strBin op a b
 | _, _ => none
def unC (op : UnOp) : CVal → Option CVal
 | .int k n => match op with
  | .neg => some (.int k (k.wrap (0 - n)))
  | .xor => some (.int k (k.wrap ((BitVec.ofInt k.bits (if k.signed then -1 else k.max) ^^^ BitVec.ofInt k.bits n).toNat)))
  | _ => none
 | .bool b => match op with
  | .not => some (.bool !b)
  | _ => none
 | _ => none
def CVal.cellsOf : CVal → Option (List CVal)
 | .agg cs => if cs.all CVal.one then some cs else none
 | .undef | .tuple _ => none
 | v => some [v]
def fillC : List CVal → List (Nat × Nat × CVal) → Option (List CVal)
 | cs, [] => some cs
 | cs, (off, n, v) :: rest => match v.cellsOf with
  | some us => if us.length = n ∧ off + n ≤ cs.length then fillC (putCells cs off us) rest else none
  | none => none
def assocF : List (TypeId × FuncId) → TypeId → Option FuncId
 | [], _ => none
 | (u, f) :: l, t => if u = t then some f else assocF l t
theorem assocF_mem : ∀ {l : List (TypeId × FuncId)} {t : TypeId} {f : FuncId}, assocF l t = some f → (t, f) ∈ l
 | [], _, _, e => by simp [assocF] at e
 | (u, g) :: l, t, f, e => by
  simp only [assocF] at e
  split at e
  ·next hu => simp only [Option.some.injEq] at e; subst hu; subst e; exact .head _
  ·exact .tail _ (assocF_mem e)
def asNat : CVal → Option Nat
 | .int _ n => if 0 ≤ n then some n.toNat else none
 | _ => none
def boundsC (len cap : Nat) (lo hi mx : Option CVal) : Option (Nat × Nat × Nat) :=
 match (match mx with | some v => asNat v | none => some cap) with
 | none => none
 | some m =>
  if m ≤ cap then
   match (match hi, mx with | some v, _ => asNat v | none, none => some len | none, some _ => none) with
   | none => none
   | some b =>
    if b ≤ m then
     match (match lo with | some v => asNat v | none => some 0) with
     | none => none
     | some a => if a ≤ b then some (a, b, m) else none
    else none
  else none
def byteC : CVal → Option UInt8
 | .int .u8 n => some (UInt8.ofNat n.toNat)
 | _ => none
def bytesC : List CVal → Option (List UInt8)
 | [] => some []
 | v :: vs => match byteC v, bytesC vs with
  | some b, some bs => some (b :: bs)
  | _, _ => none
def repC (n : Nat) (zero : List CVal) : List CVal := match n with
 | 0 => []
 | n + 1 => zero ++ repC n zero
def srcC (h : Heap) (sz : Nat) : CVal → Option (Nat × List CVal)
 | .nilSlice => some (0, [])
 | .str s => if sz = 1 then some (s.length, s.map fun b => .int .u8 b.toNat) else none
 | .slice j p m _ =>
  if m = 0 then some (0, []) else
  match h.get j with
  | some (.cells us _ _) => if ((us.drop p).take (m * sz)).length = m * sz then some (m, (us.drop p).take (m * sz)) else none
  | _ => none
 | _ => none
def appendC (h : Heap) (sz bytes : Nat) (s x : CVal) : Option (CVal × Heap) :=
 match srcC h sz x with
 | none => none
 | some (n, new) =>
  if new.all CVal.one then
  match s with
  | .nilSlice =>
   if n = 0 then some (.nilSlice, h)
   else if n * bytes ≤ 1099511627776 then some (.slice h.next 0 n n, h.new (.cells new true (some sz))) else none
  | .slice i o l c =>
   if n = 0 then some (.slice i o l c, h) else
   match h.get i with
   | some (.cells vs wr opn) =>
    if l + n ≤ c then
     if wr = true ∧ o + (l + n) * sz ≤ vs.length then some (.slice i o (l + n) c, h.set i (.cells (putCells vs (o + l * sz) new) true opn)) else none
    else if (l + n) * bytes ≤ 1099511627776 ∧ ((vs.drop o).take (l * sz)).length = l * sz then
     match opn with
     | none => some (.slice h.next 0 (l + n) (l + n), h.new (.cells ((vs.drop o).take (l * sz) ++ new) true (some sz)))
     | some sz' =>
      if wr = true ∧ sz' = sz ∧ o + c * sz ≤ vs.length then some (.slice h.next 0 (l + n) (l + n), (h.kill i).new (.cells ((vs.drop o).take (l * sz) ++ new) true (some sz)))
      else none
    else none
   | _ => none
  | _ => none
  else none
def exactC (h : Heap) (i : Nat) : Bool := match h.get i with
 | some (.cells _ _ none) => true
 | _ => false
def maxC (isMax : Bool) : CVal → CVal → Option CVal
 | .int k a, .int k' b => if k = k' then some (.int k (if isMax then (if b > a then b else a) else (if b < a then b else a))) else none
 | _, _ => none
def foldC (isMax : Bool) : CVal → List CVal → Option CVal
 | v, [] => some v
 | v, u :: us => match maxC isMax v u with
  | some w => foldC isMax w us
  | none => none
def extC (h : Heap) : Ext → List CVal → Option (CVal × Heap)
 | .atomicLoad k, [.ptr i o] => match h.get i with
  | some (.cells vs _ _) => match vs[o]? with
   | some (.int k' n) => if k = k' then some (.int k n, h) else none
   | _ => none
  | _ => none
 | .atomicStore k, [.ptr i o, .int k2 n] => match h.get i with
  | some (.cells vs true opn) => if k = k2 ∧ o < vs.length then some (.tuple [], h.set i (.cells (vs.set o (.int k n)) true opn)) else none
  | _ => none
 | .atomicAdd k, [.ptr i o, .int k2 d] => match h.get i with
  | some (.cells vs true opn) => match vs[o]? with
   | some (.int k' n) => if k = k' ∧ k = k2 then some (.int k (k.wrap (n + d)), h.set i (.cells (vs.set o (.int k (k.wrap (n + d)))) true opn)) else none
   | _ => none
  | _ => none
 | .atomicCas k, [.ptr i o, .int k2 a, .int k3 b] => match h.get i with
  | some (.cells vs true opn) => match vs[o]? with
   | some (.int k' n) => if k = k' ∧ k = k2 ∧ k = k3 then (if n = a then some (.bool true, h.set i (.cells (vs.set o (.int k b)) true opn)) else some (.bool false, h)) else none
   | _ => none
  | _ => none
 | .mark0, [] => some (.tuple [], h)
 | .mark1, [.ptr _ _] => some (.tuple [], h)
 | .uptr, [.ptr i o] => match h.get i with
  | some (.cells vs _ _) => if o < vs.length then some (.ptr i o, h) else none
  | _ => none
 | _, _ => none
def partC (agg : Bool) (off n : Nat) (cs : List CVal) : Option CVal :=
 if agg then (if off + n ≤ cs.length then some (.agg ((cs.drop off).take n)) else none) else cs[off]?
def mapC (h : Heap) : CVal → Option (List (CVal × CVal))
 | .nilMap => some []
 | .map i => match h.get i with
  | some (.map es _ _) => some es
  | _ => none
 | _ => none
def cop : COp → List CVal → Heap → Option (CRes × Heap)
 | .dead, _, _ => none
 | .move x, a, h => some (.val (x.ev a), h)
 | .pick c x y, a, h => match c.ev a with
  | .bool b => some (.val (if b then x.ev a else y.ev a), h)
  | _ => none
 | .new zero, _, h => some (.val (.ptr h.next 0), h.new (.cells zero true none))
 | .box x, a, h => match (x.ev a).cellsOf with
  | some cs => some (.val (.ptr h.next 0), h.new (.cells cs true none))
  | none => none
 | .build zero parts, a, h => match fillC zero (parts.map fun p => (p.1, p.2.1, p.2.2.ev a)) with
  | some cs => some (.val (.agg cs), h)
  | none => none
 | .buildSlice zero len parts, a, h => match fillC (repC len zero) (parts.map fun p => (p.1, p.2.1, p.2.2.ev a)) with
  | some cs => if cs.all CVal.one = true then some (.val (.slice h.next 0 len len), h.new (.cells cs true none)) else none
  | none => none
 | .load agg n x, a, h => match x.ev a with
  | .ptr i off => match h.get i with
   | some (.cells vs _ _) =>
    if agg then (if ((vs.drop off).take n).length = n then some (.val (.agg ((vs.drop off).take n)), h) else none)
    else match vs[off]? with
     | some v => some (.val v, h)
     | none => none
   | _ => none
  | _ => none
 | .store n p x, a, h => match p.ev a, (x.ev a).cellsOf with
  | .ptr i off, some us => match h.get i with
   | some (.cells vs true opn) => if us.length = n ∧ off + n ≤ vs.length then some (.val .un, h.set i (.cells (putCells vs off us) true opn)) else none
   | _ => none
  | _, _ => none
 | .nilCheck x, a, h => match x.ev a with
  | .undef | .nilPtr | .nilIface | .nilFunc | .iface .. => none
  | v => some (.val v, h)
 | .bin op x y, a, h => match binC op (x.ev a) (y.ev a) with
  | some v => some (.val v, h)
  | none => none
 | .eq tk neg x y, a, h => match keq tk (x.ev a) (y.ev a) with
  | some b => some (.val (.bool (if neg then !b else b)), h)
  | none => none
 | .eqS ks neg x y, a, h => match x.ev a, y.ev a with
  | .agg as, .agg bs => match peqs ks as bs with
   | some b => some (.val (.bool (if neg then !b else b)), h)
   | none => none
  | _, _ => none
 | .un op x, a, h => match unC op (x.ev a) with
  | some v => some (.val v, h)
  | none => none
 | .conv k x, a, h => match x.ev a with
  | .int _ n => some (.val (.int k (k.wrap n)), h)
  | _ => none
 | .markB x, a, h => match x.ev a with
  | .slice i o l c => if c = 0 then none else match h.get i with
   | some (.cells vs true none) => some (.val (.slice i o l c), h.set i (.cells vs false none))
   | _ => none
  | _ => none
 | .bytesOf x, a, h => match x.ev a with
  | .str s => if s.length ≤ 1099511627776 then some (.val (.slice h.next 0 s.length s.length), h.new (.cells (s.map fun b => .int .u8 b.toNat) true (some 1))) else none
  | _ => none
 | .strOf x, a, h => match x.ev a with
  | .nilSlice => some (.val (.str []), h)
  | .slice i o l _ => if l = 0 then some (.val (.str []), h) else match h.get i with
   | some (.cells vs _ _) => match bytesC ((vs.drop o).take l) with
    | some bs => if bs.length = l then some (.val (.str bs), h) else none
    | none => none
   | _ => none
  | _ => none
 | .iface t x, a, h => some (.val (.iface t (x.ev a)), h)
 | .func f first cap, a, h => some (.val (.func f (first.map (·.ev a)) (cap.map (·.ev a))), h)
 | .newMap, _, h => some (.val (.map h.next), h.new (.map [] true (some ([], 0))))
 | .makeSlice zero bytes l c, a, h => match asNat (l.ev a), asNat (c.ev a) with
  | some ln, some cn => if ln ≤ cn ∧ cn * bytes ≤ 1099511627776 ∧ cn ≤ 1099511627776 then some (.val (.slice h.next 0 ln cn), h.new (.cells (repC cn zero) true none)) else none
  | _, _ => none
 | .sliceStr x lo hi, a, h => match x.ev a with
  | .str s => match boundsC s.length s.length (lo.map (·.ev a)) (hi.map (·.ev a)) none with
   | some (l, b, _) => some (.val (.str ((s.drop l).take (b - l))), h)
   | none => none
  | _ => none
 | .slice sz x lo hi mx, a, h => match x.ev a with
  | .nilSlice => match boundsC 0 0 (lo.map (·.ev a)) (hi.map (·.ev a)) (mx.map (·.ev a)) with
   | some _ => some (.val .nilSlice, h)
   | none => none
  | .slice i o len cap =>
   if mx.isSome = true ∧ exactC h i = false then none else
   match boundsC len cap (lo.map (·.ev a)) (hi.map (·.ev a)) (mx.map (·.ev a)) with
   | some (l, b, m) => some (.val (.slice i (o + l * sz) (b - l) (m - l)), h)
   | none => none
  | _ => none
 | .sliceArr n sz x lo hi mx, a, h => match x.ev a with
  | .ptr i o =>
   if exactC h i = false then none else
   match boundsC n n (lo.map (·.ev a)) (hi.map (·.ev a)) (mx.map (·.ev a)) with
   | some (l, b, m) => some (.val (.slice i (o + l * sz) (b - l) (m - l)), h)
   | none => none
  | _ => none
 | .fieldAddr off x, a, h => match x.ev a with
  | .ptr i o => some (.val (.ptr i (o + off)), h)
  | _ => none
 | .part agg off n x, a, h => match x.ev a with
  | .agg cs => match partC agg off n cs with
   | some v => some (.val v, h)
   | none => none
  | _ => none
 | .indexAddr sz x i, a, h => match x.ev a, asNat (i.ev a) with
  | .slice b o l _, some j => if j < l then some (.val (.ptr b (o + j * sz)), h) else none
  | _, _ => none
 | .indexAddrArr len sz x i, a, h => match x.ev a, asNat (i.ev a) with
  | .ptr b o, some j => if j < len then some (.val (.ptr b (o + j * sz)), h) else none
  | _, _ => none
 | .indexArr len agg sz x i, a, h => match x.ev a, asNat (i.ev a) with
  | .agg cs, some j => if j < len then (match partC agg (j * sz) sz cs with
   | some v => some (.val v, h)
   | none => none) else none
  | _, _ => none
 | .indexStr x i, a, h => match x.ev a, asNat (i.ev a) with
  | .str s, some j => match s[j]? with
   | some b => some (.val (.int .u8 b.toNat), h)
   | none => none
  | _, _ => none
 | .lookup kt zero ok m k, a, h =>
  if keyok kt (k.ev a) = false then none else
  match mapC h (m.ev a) with
  | none => none
  | some es => match findK kt (k.ev a) es 0 with
   | some (some (_, v)) => some (.val (if ok then .tuple [v, .bool true] else v), h)
   | some none => some (.val (if ok then .tuple [zero, .bool false] else zero), h)
   | none => none
 | .mapUpdate kt m k v, a, h =>
  if keyok kt (k.ev a) = false then none else
  match m.ev a with
  | .map i => match h.get i with
   | some (.map es true st) => match findK kt (k.ev a) es 0 with
    | some (some (j, _)) => some (.val .un, h.set i (.map (es.set j (k.ev a, v.ev a)) true st))
    | some none => some (.val .un, h.set i (.map (es ++ [(k.ev a, v.ev a)]) true (stPush st)))
    | none => none
   | _ => none
  | _ => none
 | .extract x i, a, h => match x.ev a with
  | .tuple vs => match vs[i]? with
   | some v => some (.val v, h)
   | none => none
  | _ => none
 | .len k x, a, h => match k, x.ev a with
  | .str, .str s => some (.val (.int .i64 s.length), h)
  | .slice, .nilSlice => some (.val (.int .i64 0), h)
  | .slice, .slice _ _ l _ => some (.val (.int .i64 l), h)
  | .map, .nilMap => some (.val (.int .i64 0), h)
  | .map, .map i => match h.get i with
   | some (.map es _ _) => some (.val (.int .i64 es.length), h)
   | _ => none
  | _, _ => none
 | .append sz bytes s x, a, h => match appendC h sz bytes (s.ev a) (x.ev a) with
  | some (v, h') => some (.val v, h')
  | none => none
 | .copy sz d s, a, h => match d.ev a with
  | .nilSlice => match s.ev a with
   | .nilSlice | .slice .. | .str _ => some (.val (.int .i64 0), h)
   | _ => none
  | .slice i o l _ => match srcC h sz (s.ev a) with
   | some (n, cs) =>
    if min n l = 0 then some (.val (.int .i64 0), h) else
    match h.get i with
    | some (.cells vs true opn) => if o + l * sz ≤ vs.length ∧ cs.all CVal.one = true then some (.val (.int .i64 (min n l : Nat)), h.set i (.cells (putCells vs o (cs.take (min n l * sz))) true opn)) else none
    | _ => none
   | none => none
  | _ => none
 | .delete kt m k, a, h =>
  if keyok kt (k.ev a) = false then none else
  match m.ev a with
  | .nilMap => some (.val .un, h)
  | .map i => match h.get i with
   | some (.map es true st) => match findK kt (k.ev a) es 0 with
    | some (some (j, _)) => some (.val .un, h.set i (.map (es.eraseIdx j) true (stErase st j)))
    | some none => some (.val .un, h)
    | none => none
   | _ => none
  | _ => none
 | .mapEntry kt zero m k, a, h =>
  if keyok kt (k.ev a) = false then none else
  match m.ev a with
  | .map i => match h.get i with
   | some (.map es true (some (bs, c))) => match findK kt (k.ev a) es 0 with
    | some (some (j, v)) => match bs[j]? with
     | some b => some (.val (.tuple [v, .int .i64 b]), h.set i (.map (es.set j (k.ev a, v)) true (some (bs, c))))
     | none => none
    | some none => some (.val (.tuple [zero, .int .i64 c]), h.set i (.map (es ++ [(k.ev a, zero)]) true (some (bs ++ [c], c + 1))))
    | none => none
   | _ => none
  | _ => none
 | .entryStore m s x, a, h => match m.ev a, s.ev a with
  | .map i, .int _ n => match h.get i with
   | some (.map es true (some (bs, c))) => match bs.findIdx? (fun (b : Nat) => (b : Int) == n) with
    | some j => match es[j]? with
     | some (k, _) => some (.val .un, h.set i (.map (es.set j (k, x.ev a)) true (some (bs, c))))
     | none => none
    | none => none
   | _ => none
  | _, _ => none
 | .clear zero x, a, h => match x.ev a with
  | .nilSlice => some (.val .un, h)
  | .slice i o l _ => if l = 0 then some (.val .un, h) else match h.get i with
   | some (.cells vs true opn) => if o + l * zero.length ≤ vs.length then some (.val .un, h.set i (.cells (putCells vs o (repC l zero)) true opn)) else none
   | _ => none
  | _ => none
 | .maxmin isMax x xs, a, h => match foldC isMax (x.ev a) (xs.map (·.ev a)) with
  | some v => some (.val v, h)
  | none => none
 | .call f args, a, h => match f.ev a with
  | .func g first cap => some (.enter g (first ++ args.map (·.ev a) ++ cap), h)
  | .yield i => match h.get i with
   | some (.loop _ _ _ _ np _ _) => if args.length = np then some (.round i (args.map (·.ev a)), h) else none
   | _ => none
  | _ => none
 | .defer f args, a, h => match f.ev a with
  | .func g first cap => some (.defer g (first ++ args.map (·.ev a) ++ cap), h)
  | _ => none
 | .ext e args, a, h => match extC h e (args.map (·.ev a)) with
  | some (v, h') => some (.val v, h')
  | none => none
 | .appendN sz bytes zero s x, a, h => match s.ev a, asNat (x.ev a) with
  | .nilSlice, some n => if 0 < n ∧ n * bytes ≤ 1099511627776 then some (.val (.slice h.next 0 n n), h.new (.cells (repC n zero) true (some sz))) else none
  | _, _ => none
 | .invoke ms x args, a, h => match x.ev a with
  | .iface t v => match assocF ms t with
   | some f => some (.enter f (v :: args.map (·.ev a)), h)
   | none => none
  | _ => none
 | .assert t zero ok x, a, h => match x.ev a with
  | .nilIface => if ok then some (.val (.tuple [zero, .bool false]), h) else none
  | .iface t' v => if t = t' then some (.val (if ok then .tuple [v, .bool true] else v), h) else if ok then some (.val (.tuple [zero, .bool false]), h) else none
  | _ => none
 | .rangeStr x, a, h => match x.ev a with
  | .str s => some (.val (.ptr h.next 0), h.new (.iter s 0))
  | _ => none
 | .nextStr x, a, h => match x.ev a with
  | .ptr i 0 => match h.get i with
   | some (.iter s pos) =>
    if pos < s.length then
     match Utf8.decode ⟨s.toArray⟩ pos with
     | (c, width) => some (.val (.tuple [.bool true, .int .i64 pos, .int .i32 c]), h.set i (.iter s (pos + width)))
    else some (.val (.tuple [.bool false]), h)
   | _ => none
  | _ => none
def allocC (op : COp) (a : List CVal) (id : Nat) : Option (CVal × CObj) := match op with
 | .new zero => some (.ptr id 0, .cells zero true none)
 | .box x => match (x.ev a).cellsOf with
  | some cs => some (.ptr id 0, .cells cs true none)
  | none => none
 | .buildSlice zero len parts => match fillC (repC len zero) (parts.map fun p => (p.1, p.2.1, p.2.2.ev a)) with
  | some cs => if cs.all CVal.one = true then some (.slice id 0 len len, .cells cs true none) else none
  | none => none
 | .newMap => some (.map id, .map [] true (some ([], 0)))
 | .makeSlice zero bytes l c => match asNat (l.ev a), asNat (c.ev a) with
  | some ln, some cn => if ln ≤ cn ∧ cn * bytes ≤ 1099511627776 ∧ cn ≤ 1099511627776 then some (.slice id 0 ln cn, .cells (repC cn zero) true none) else none
  | _, _ => none
 | _ => none
def isA : COp → Bool
 | .new _ | .box _ | .buildSlice .. | .newMap | .makeSlice .. => true
 | _ => false
theorem cop_alloc {op : COp} (ho : isA op = true) {a : List CVal} {h : Heap} {r : CRes} {h' : Heap} (e : cop op a h = some (r, h')) : ∃ v obj, allocC op a h.next = some (v, obj) ∧ r = .val v ∧ h' = h.new obj := by
 cases op <;> simp [isA] at ho
 case new zero => simp [cop] at e; obtain ⟨rfl, rfl⟩ := e; exact ⟨_, _, rfl, rfl, rfl⟩
 case newMap => simp [cop] at e; obtain ⟨rfl, rfl⟩ := e; exact ⟨_, _, rfl, rfl, rfl⟩
 case box x =>
  simp only [cop] at e
  split at e
  ·next cs hcs => simp at e; obtain ⟨rfl, rfl⟩ := e; exact ⟨_, _, by simp only [allocC, hcs], rfl, rfl⟩
  ·simp at e
 case buildSlice zero len parts =>
  simp only [cop] at e
  split at e
  ·next cs hcs =>
   split at e
   ·next h1 => simp at e; obtain ⟨rfl, rfl⟩ := e; exact ⟨_, _, by simp only [allocC, hcs]; rw [if_pos h1], rfl, rfl⟩
   ·simp at e
  ·simp at e
 case makeSlice zero bytes l c =>
  simp only [cop] at e
  split at e
  ·next ln cn hl hc =>
   split at e
   ·next h1 => simp at e; obtain ⟨rfl, rfl⟩ := e; exact ⟨_, _, by simp only [allocC, hl, hc]; rw [if_pos h1], rfl, rfl⟩
   ·simp at e
  ·simp at e
structure COper where
 dst : Option Nat
 op : COp
 guard : Option (Nat × Bool)
 deriving Inhabited
inductive DK where
 | quiet (ks : List Nat)
 | alloc (aid : Nat)
 | eff
 deriving Inhabited
structure DIt where
 ix : Nat
 c : COper
 kind : DK
 deriving Inhabited
inductive CCode where
 | skip
 | region (ops : List COper)
 | draw (its : List DIt) (n : Nat)
 | seq (a b : CCode)
 | cond (c : CX) (a b : CCode)
 | block (id : Nat) (body : CCode)
 | loop (body : CCode)
 | exit (id : Nat)
 | ret
 | wipe (slots : List Nat)
 | goto (l : Nat)
 | scope (body : CCode) (rests : List (Nat × CCode))
 | rangeF (fn k np : Nat) (f : CX)
 deriving Inhabited
inductive CExit where
 | normal
 | exit (id : Nat)
 | ret
 | goto (l : Nat)
 deriving Inhabited
def findRest (l : Nat) : List (Nat × CCode) → Option CCode
 | [] => none
 | (l', r) :: rs => if l' == l then some r else findRest l rs
structure Fr where
 tmps : List CVal
 defers : List (FuncId × List CVal)
 deriving Inhabited
def Fr.put (a : Fr) (d : Option Nat) (v : CVal) : Fr := match d with
 | some d => { a with tmps := a.tmps.set d v }
 | none => a
abbrev CallFn := FuncId → List CVal → Heap → Option (CVal × Heap)
def wantC (a : List CVal) : Option (Nat × Bool) → Option Bool
 | none => some true
 | some (t, want) => match a.getD t .undef with
  | .bool b => some (b == want)
  | .tuple [] => some false
  | _ => none
def markD (d : Nat) : FuncId × List CVal := (0, [.yield d])
def isMark : FuncId × List CVal → Option Nat
 | (0, [.yield d]) => some d
 | _ => none
def fId (f : FuncId) : Nat := 2 * f
def yId (i : Nat) : Nat := 2 * i + 1
def evOp1 (call : CallFn) (o : COper) (a : List CVal) (h : Heap) : Option (CVal × List (FuncId × List CVal) × Heap) :=
 match wantC a o.guard with
 | none => none
 | some false => some (.un, [], h)
 | some true => match cop o.op a h with
  | none => none
  | some (.val v, h') => some (v, [], h')
  | some (.enter f args, h') => match call (fId f) args h' with
   | some (v, h'') => some (v, [], h'')
   | none => none
  | some (.defer f args, h') => match isMark (f, args) with
   | some _ => none
   | none => some (.un, [(f, args)], h')
  | some (.round i args, h') => match call (yId i) args h' with
   | some (v, h'') => some (v, [], h'')
   | none => none
def Fr.done (a : Fr) (d : Option Nat) (v : CVal) (ds : List (FuncId × List CVal)) : Fr := { a with defers := ds ++ a.defers }.put d v
def evOper (call : CallFn) (o : COper) (a : Fr) (h : Heap) : Option (Fr × Heap) :=
 match evOp1 call o a.tmps h with
 | some (v, ds, h') => some (a.done o.dst v ds, h')
 | none => none
def evOps (call : CallFn) : List COper → Fr → Heap → Option (Fr × Heap)
 | [], a, h => some (a, h)
 | o :: os, a, h => match evOper call o a h with
  | some (a', h') => evOps call os a' h'
  | none => none
def noCall : CallFn := fun _ _ _ => none
def stepD (call : CallFn) (base : Nat) (it : DIt) (a : Fr) (h : Heap) : Option (Fr × Heap) :=
 match it.kind with
 | .quiet _ => match evOp1 noCall it.c a.tmps h with
  | some (v, [], _) => some (a.put it.c.dst v, h)
  | _ => none
 | .alloc aid => match it.c.guard, allocC it.c.op a.tmps (base + aid) with
  | none, some (v, obj) => some (a.put it.c.dst v, h.set (base + aid) obj)
  | _, _ => none
 | .eff => evOper call it.c a h
def evD (call : CallFn) (base : Nat) : List DIt → Fr → Heap → Option (Fr × Heap × List (Fr × Heap))
 | [], a, h => some (a, h, [(a, h)])
 | it :: its, a, h => match stepD call base it a h with
  | some (a₁, h₁) => match evD call base its a₁ h₁ with
   | some (a', h', hs) => some (a', h', (a, h) :: hs)
   | none => none
  | none => none
def checkQ (c : COper) (a out : List CVal) (hs : List (Fr × Heap)) (k : Nat) : Bool := match hs[k]? with
 | some g => match evOp1 noCall c a g.2 with
  | some (v, [], _) => match c.dst with
   | some d => CVal.beq v (out.getD d .undef)
   | none => true
  | _ => false
 | none => false
def checkD (out : List CVal) (hs : List (Fr × Heap)) : List DIt → List (Fr × Heap) → Bool
 | [], _ => true
 | it :: its, s :: ss => (match it.kind with
  | .quiet ks => ks.all (checkQ it.c s.1.tmps out hs)
  | _ => true) && checkD out hs its ss
 | _ :: _, [] => false
def Fr.wipe (a : Fr) : List Nat → Fr
 | [] => a
 | t :: ts => Fr.wipe { a with tmps := a.tmps.set t .undef } ts
def CJ.cx : CJ → CExit
 | .exit id => .exit id
 | .ret => .ret
 | .goto l => .goto l
def evCode (call : CallFn) : Nat → CCode → Fr → Heap → Option (CExit × Fr × Heap)
 | 0, _, _, _ => none
 | n + 1, c, a, h => match c with
  | .skip => some (.normal, a, h)
  | .region ops => match evOps call ops a h with
   | some (a', h') => some (.normal, a', h')
   | none => none
  | .draw its k => match evD call h.next its a { h with next := h.next + k } with
   | some (a', h', hs) => if checkD a'.tmps hs its hs then some (.normal, a', h') else none
   | none => none
  | .seq x y => match evCode call n x a h with
   | some (.normal, a', h') => evCode call n y a' h'
   | r => r
  | .cond c x y => match c.ev a.tmps with
   | .bool true => evCode call n x a h
   | .bool false => evCode call n y a h
   | _ => none
  | .block id b => match evCode call n b a h with
   | some (.exit id', a', h') => if id' = id then some (.normal, a', h') else some (.exit id', a', h')
   | r => r
  | .loop b => match evCode call n b a h with
   | some (.normal, a', h') => evCode call n (.loop b) a' h'
   | r => r
  | .exit id => some (.exit id, a, h)
  | .ret => some (.ret, a, h)
  | .wipe ts => some (.normal, a.wipe ts, h)
  | .goto l => some (.goto l, a, h)
  | .scope b rests => match evCode call n b a h with
   | some (.goto l, a', h') => match findRest l rests with
    | some r => evCode call n (.scope r rests) a' h'
    | none => none
   | r => r
  | .rangeF fn k np f => match f.ev a.tmps with
   | .func g first cap =>
    let d := h.next
    let l := (h.new .dfr).next
    match call (fId g) (first ++ [.yield l] ++ cap) ((h.new .dfr).new (.loop .ready none fn k np a.tmps d)) with
    | some (_, h₁) => match h₁.get l with
     | some (.loop st pend fn' k' np' tmps' d') => match st with
      | .busy => none
      | _ => some ((match pend with
       | none => .normal
       | some j => j.cx), { a with defers := markD d :: a.defers }, h₁.set l (.loop .exhausted pend fn' k' np' tmps' d'))
     | _ => none
    | none => none
   | _ => none
inductive CRV where
 | tmp (t : Nat)
 | cell (a : Nat) (agg : Bool) (n : Nat)
 deriving Inhabited
structure CFunc where
 ntmps : Nat
 results : List CRV
 code : CCode
 deriving Inhabited
def resC (a : List CVal) (h : Heap) : CRV → Option CVal
 | .tmp t => some (a.getD t .undef)
 | .cell t agg n => match cop (.load agg n (.t t)) a h with
  | some (.val v, _) => some v
  | _ => none
def resultsC (a : List CVal) (h : Heap) : List CRV → Option (List CVal)
 | [] => some []
 | r :: rs => match resC a h r, resultsC a h rs with
  | some v, some vs => some (v :: vs)
  | _, _ => none
def runDefers (call : CallFn) : List (FuncId × List CVal) → Heap → Option Heap
 | [], h => some h
 | x :: ds, h => match isMark x with
  | some d => match h.get d with
   | some .dfr => runDefers call ds (h.kill d)
   | _ => none
  | none => match call x.1 x.2 h with
   | some (_, h') => runDefers call ds h'
   | none => none
def frame₀ (fn : CFunc) (args : List CVal) : Fr := { tmps := args ++ List.replicate (fn.ntmps - args.length) .un, defers := [] }
def packC : List CVal → CVal
 | [v] => v
 | vs => .tuple vs
def evBody (call calld : CallFn) (n : Nat) (fn : CFunc) (args : List CVal) (h : Heap) : Option (CVal × Heap) :=
 match evCode call n fn.code (frame₀ fn args) h with
 | some (.exit _, _, _) => none
 | some (.goto _, _, _) => none
 | some (_, a, h') =>
  match runDefers calld a.defers h' with
  | some h'' => match resultsC a.tmps h'' fn.results with
   | some vs => some (packC vs, h'')
   | none => none
  | none => none
 | none => none
def evBodyD (call : CallFn) (n : Nat) (fn : CFunc) (args : List CVal) (h : Heap) : Option (CVal × Heap) :=
 match evCode call n fn.code (frame₀ fn args) h with
 | some (.exit _, _, _) => none
 | some (.goto _, _, _) => none
 | some (_, a, h') =>
  match a.defers with
  | [] => match resultsC a.tmps h' fn.results with
   | some vs => some (packC vs, h')
   | none => none
  | _ => none
 | none => none
structure RoundC where
 params : List Nat
 asg : CCode
 body : CCode
 deriving Inhabited
def setsC : List CVal → List Nat → List CVal → List CVal
 | a, t :: ts, v :: vs => setsC (a.set t v) ts vs
 | a, _, _ => a
def evRound (call : CallFn) (n : Nat) (rc : Nat → Nat → Option RoundC) (i : Nat) (args : List CVal) (h : Heap) : Option (CVal × Heap) :=
 match h.get i with
 | some (.loop _ _ fn k np tmps _) => if args.length = np then (match rc fn k with
  | some r => match evCode call n r.asg ⟨setsC tmps r.params args, []⟩ h with
   | some (.normal, a₁, h₁) => match h₁.get i with
    | some (.loop .ready pend fn' k' np' tmps' d') => match evCode call n r.body a₁ (h₁.set i (.loop .busy pend fn' k' np' tmps' d')) with
     | some (x, a₂, h₂) => match a₂.defers with
      | [] => match h₂.get i with
       | some (.loop _ _ fn'' k'' np'' tmps'' d'') => match x with
        | .normal => some (.bool true, h₂.set i (.loop .ready none fn'' k'' np'' tmps'' d''))
        | .exit id => some (.bool false, h₂.set i (.loop .done (some (.exit id)) fn'' k'' np'' tmps'' d''))
        | .ret => some (.bool false, h₂.set i (.loop .done (some .ret) fn'' k'' np'' tmps'' d''))
        | .goto l => some (.bool false, h₂.set i (.loop .done (some (.goto l)) fn'' k'' np'' tmps'' d''))
       | _ => none
      | _ => none
     | none => none
    | _ => none
   | _ => none
  | none => none) else none
 | _ => none
structure Tab where
 code : FuncId → Option CFunc
 prim : FuncId → Option (List CVal → Heap → Option (CVal × Heap))
 rounds : Nat → Nat → Option RoundC := fun _ _ => none
 dcode : FuncId → Option CFunc := fun _ => none
def Tab.dcod (T : Tab) (f : FuncId) : Option CFunc := match T.code f with
 | some fn => some fn
 | none => T.dcode f
def callF (T : Tab) : Nat → CallFn
 | 0, _, _, _ => none
 | n + 1, c, args, h => match c % 2 with
  | 0 => (match T.prim (c / 2) with
   | some p => p args h
   | none => match T.code (c / 2) with
    | some fn => evBody (callF T n) (fun g as h => match T.dcod g with | some gn => evBodyD (callF T n) n gn as h | none => none) n fn args h
    | none => none)
  | _ => evRound (callF T n) n T.rounds (c / 2) args h
theorem fId_mod (f : Nat) : fId f % 2 = 0 := by unfold fId; omega
theorem fId_div (f : Nat) : fId f / 2 = f := by unfold fId; omega
theorem yId_mod (i : Nat) : yId i % 2 = 1 := by unfold yId; omega
theorem yId_div (i : Nat) : yId i / 2 = i := by unfold yId; omega
theorem callF_fn (T : Tab) (n : Nat) (f : FuncId) (args : List CVal) (h : Heap) : callF T (n + 1) (fId f) args h = match T.prim f with
  | some p => p args h
  | none => match T.code f with
   | some fn => evBody (callF T n) (fun g as h => match T.dcod g with | some gn => evBodyD (callF T n) n gn as h | none => none) n fn args h
   | none => none := by
 rw [callF]; simp only [fId_mod, fId_div]
theorem callF_round (T : Tab) (n i : Nat) (args : List CVal) (h : Heap) : callF T (n + 1) (yId i) args h = evRound (callF T n) n T.rounds i args h := by
 rw [callF]; simp only [yId_mod, yId_div]
end Go.Proofs.YtkjdgdkkepmciaaGreat.Cm
namespace Go.Proofs.YtkjdgdkkepmciaaGreat.Cm
open Go.RowKit
def ofV : Nat → Value → Option CVal
 | 0, _ => none
 | n + 1, v => match v with
  | .bool b => some (.bool b)
  | .int k x => some (.int k x)
  | .string s => some (.str s.data.toList)
  | .pointer none => some .nilPtr
  | .slice none 0 0 => some .nilSlice
  | .map none => some .nilMap
  | .nilFunc => some .nilFunc
  | .nilIface => some .nilIface
  | .func (.func f) first cap => if first.size = 0 ∧ cap.size = 0 then some (.func f [] []) else none
  | .iface t x => (ofV n x).map (.iface t)
  | .agg cs => (ofVs n cs.toList).map .agg
  | .tuple cs => if cs.size = 0 then some (.tuple []) else none
  | _ => none
where
 ofVs (n : Nat) : List Value → Option (List CVal)
  | [] => some []
  | v :: vs => match ofV n v, ofVs n vs with
   | some c, some cs => some (c :: cs)
   | _, _ => none
theorem ofVs_rel {ι : Emb} {n : Nat} (ih : ∀ v c, ofV n v = some c → VR ι c v) : ∀ (vs : List Value) (cs : List CVal), ofV.ofVs n vs = some cs → VRs ι cs vs
 | [], cs, h => by simp [ofV.ofVs] at h; subst h; exact .nil
 | v :: vs, cs, h => by
  simp only [ofV.ofVs] at h
  cases h1 : ofV n v with
  | none => simp [h1] at h
  | some c =>
   cases h2 : ofV.ofVs n vs with
   | none => simp [h1, h2] at h
   | some cs' => simp [h1, h2] at h; subst h; exact .cons _ _ _ _ (ih v c h1) (ofVs_rel ih vs cs' h2)
theorem ofV_rel {ι : Emb} : ∀ (n : Nat) (v : Value) (c : CVal), ofV n v = some c → VR ι c v
 | 0, _, _, h => by simp [ofV] at h
 | n + 1, v, c, h => by
  have ih := ofV_rel (ι := ι) n
  unfold ofV at h
  split at h
  ·simp at h; subst h; exact .bool _
  ·simp at h; subst h; exact .int _ _
  ·simp at h; subst h; exact .str _
  ·simp at h; subst h; exact .nilPtr
  ·simp at h; subst h; exact .nilSlice
  ·simp at h; subst h; exact .nilMap
  ·simp at h; subst h; exact .nilFunc
  ·simp at h; subst h; exact .nilIface
  ·next f first cap =>
   split at h
   ·next hs =>
    simp at h; subst h
    have h1 : first = #[] := Array.eq_empty_of_size_eq_zero hs.1
    have h2 : cap = #[] := Array.eq_empty_of_size_eq_zero hs.2
    subst h1 h2
    exact .func _ _ _ _ _ .nil .nil
   ·simp at h
  ·next t x =>
   cases h1 : ofV n x with
   | none => simp [h1] at h
   | some y => simp [h1] at h; subst h; exact .iface _ _ _ (ih _ _ h1)
  ·next cs =>
   cases h1 : ofV.ofVs n cs.toList with
   | none => simp [h1] at h
   | some y => simp [h1] at h; subst h; exact .agg _ _ (ofVs_rel ih _ _ h1)
  ·next cs =>
   split at h
   ·next hs =>
    simp at h; subst h
    have h1 : cs = #[] := Array.eq_empty_of_size_eq_zero hs
    subst h1
    exact .tuple _ _ .nil
   ·simp at h
  ·simp at h
def depthV : Nat := 40
def compX : Operand → Option CX
 | .tmp t => some (.t t)
 | .const v => (ofV depthV v).map .c
 | .global g => some (.c (.ptr g 0))
 | .func f => some (.c (.func f [] []))
def compXs : List Operand → Option (List CX)
 | [] => some []
 | x :: xs => match compX x, compXs xs with
  | some c, some cs => some (c :: cs)
  | _, _ => none
def compXo : Option Operand → Option (Option CX)
 | none => some none
 | some x => (compX x).map some
def RoundR (ι : Emb) (w : World) (i : Nat) (args : List CVal) (n : Next) : Prop := ∃ (l β e : Nat) (r : Loop) (args' : Array Value), ι i = some (l, β, e) ∧ w.heap[l]? = some (.loop r) ∧ VRs ι args args'.toList ∧ args'.size = r.params.size ∧
 n = .round l r.fn ((r.params.zip args').foldl (fun tmps (t, a) => tmps.setIfInBounds t a) r.tmps) r.assign r.body
def NR (ι : Emb) (w : World) : CRes → Next → Prop
 | .val v, .value v' => VR ι v v'
 | .val v, .skip => VR ι v Go.undef
 | .enter f args, .enter f' args' => f = f' ∧ VRs ι args args'.toList
 | .defer f args, .defer d => ∃ cap : Array Value, d.target = .fn (.func f) cap ∧ VRs ι args (d.args ++ cap).toList
 | .round i args, n => RoundR ι w i args n
 | _, _ => False
def Out (P : Program) (K : Ctx) (ι : Emb) (r : CRes) (h' : Heap) (s : Sem Next) (w : World) : Prop :=
 ∃ ι' w' n, ι.le ι' ∧ s.run P w = .ok n w' ∧ Inv K ι' h' w' ∧ NR ι' w' r n
section
variable {P : Program} {K : Ctx} {ι : Emb} {h : Heap} {w : World} {a : List CVal} {A : Act}
def TmpR (ι : Emb) (a : List CVal) (A : Act) (t : Nat) : Prop := VR ι (a.getD t .undef) (A.tmps.getD t Go.undef)
theorem VRs.tmp (R : VRs ι a A.tmps.toList) (t : Nat) : TmpR ι a A t := by
 unfold TmpR
 simp only [List.getD]
 cases ht : a[t]? with
 | none => exact .undef _
 | some v =>
  obtain ⟨v', h1, h2⟩ := R.get t v ht
  simp only [Array.getElem?_toList] at h1
  simpa [Array.getD_eq_getD_getElem?, h1] using h2
def globOk (glb : Gl) : Operand → Bool
 | .global g => g < glb.n
 | _ => true
theorem Inv.ev' (H : Inv K ι h w) {X : Operand} {x : CX} (hx : compX X = some x) (R : ∀ t, X = .tmp t → TmpR ι a A t) (hg : globOk K.glb X = true) : VR ι (x.ev a) (A.eval X) := by
 cases X with
 | tmp t =>
  simp [compX] at hx; subst hx
  exact R t rfl
 | const v =>
  simp [compX] at hx
  obtain ⟨c, h1, rfl⟩ := hx
  exact ofV_rel _ _ _ h1
 | global g =>
  simp [compX] at hx; subst hx
  exact .ptr _ 0 g 0 0 (H.glob g (by simpa [globOk] using hg))
 | func f =>
  simp [compX] at hx; subst hx
  exact .func _ _ _ _ _ .nil .nil
theorem Inv.evs (H : Inv K ι h w) : ∀ {Xs : List Operand} {xs : List CX}, compXs Xs = some xs → (∀ t, Operand.tmp t ∈ Xs → TmpR ι a A t) → (∀ X ∈ Xs, globOk K.glb X = true) → VRs ι (xs.map (·.ev a)) (Xs.map A.eval)
 | [], xs, hx, _, _ => by simp [compXs] at hx; subst hx; exact .nil
 | X :: Xs, xs, hx, R, hg => by
  simp only [compXs] at hx
  cases h1 : compX X with
  | none => simp [h1] at hx
  | some c =>
   cases h2 : compXs Xs with
   | none => simp [h1, h2] at hx
   | some cs =>
    simp [h1, h2] at hx; subst hx
    exact .cons _ _ _ _ (H.ev' h1 (fun t e => R t (by simp [e])) (hg X (by simp))) (H.evs h2 (fun t e => R t (by simp [e])) fun Y hY => hg Y (by simp [hY]))
def OutQ (P : Program) (ι : Emb) (h : Heap) (r : CRes) (h' : Heap) (s : Sem Next) (w : World) : Prop :=
 ∃ v v', r = .val v ∧ h' = h ∧ s.run P w = .ok (.value v') w ∧ VR ι v v'
theorem out_val (_ : Inv K ι h w) {v : CVal} {v' : Value} {s : Sem Next} (hr : s.run P w = .ok (.value v') w) (hv : VR ι v v') : OutQ P ι h (.val v) h s w :=
 ⟨v, v', rfl, rfl, hr, hv⟩
theorem OutQ.out (H : Inv K ι h w) {r : CRes} {h' : Heap} {s : Sem Next} (q : OutQ P ι h r h' s w) : Out P K ι r h' s w := by
 obtain ⟨v, v', rfl, rfl, hr, hv⟩ := q
 exact ⟨ι, w, .value v', Emb.le.refl _, hr, H, hv⟩
def AOut (P : Program) (K : Ctx) (ι : Emb) (id : Nat) (v : CVal) (obj : CObj) (s : Sem Next) (w : World) : Prop :=
 obj.wr = true ∧ ∃ (O : Obj) (v' : Value), s.run P w = .ok (.value v') { w with heap := w.heap.push O } ∧
  ∀ ι' : Emb, ι.le ι' → ι' id = some (w.heap.size, 0, 0) → VR ι' v v' ∧ ObjR ι' { w with heap := w.heap.push O } K.glb.mod K.F id obj
theorem AOut.out (H : Inv K ι h w) {v : CVal} {obj : CObj} {s : Sem Next} (q : AOut P K ι h.next v obj s w) : Out P K ι (.val v) (h.new obj) s w := by
 obtain ⟨_, O, v', hr, q⟩ := q
 have hle := ι.le_put h.next (w.heap.size, 0, 0) (H.fresh _ (Nat.le_refl _)).1
 obtain ⟨hv, ho⟩ := q _ hle (Emb.put_same _ _ _)
 exact ⟨_, _, .value v', hle, hr, H.new (n := w.drawn) obj O 0 ho, hv⟩
theorem aout_row (H : Inv K ι h w) {elem : TypeId} {cs : List CVal} {cs' : Array Value} (R : VRs ι cs cs'.toList) (h1 : cs.all CVal.one = true) {s : Sem Next} {id : Nat} {v : CVal} (f : Addr → Value)
  (hv : ∀ ι' : Emb, ι' id = some (w.heap.size, 0, 0) → VR ι' v (f ⟨w.heap.size, 0, none⟩))
  (hs : s.run P w = ((Go.newRow elem cs').run P w).andThen fun x w => .ok (.value (f x)) w) : AOut P K ι id v (.cells cs true none) s w := by
 refine ⟨rfl, .cells cs' elem, f ⟨w.heap.size, 0, none⟩, by rw [hs]; simp [Go.newRow, newObj, Sem.run], fun ι' hle hi => ⟨hv ι' hi, ?_⟩⟩
 refine ⟨w.heap.size, 0, 0, cs', elem, 0, 0, hi, by simp, ?_, fun _ => rfl, fun _ => ⟨fun hk => ?_, fun j hj => ?_⟩⟩
 ·intro j v hv
  obtain ⟨v', h2, h3⟩ := R.get j v hv
  refine ⟨List.all_eq_true.1 h1 v (List.mem_of_getElem? hv), v', by simpa using h2, h3.mono hle⟩
 ·have := H.hF _ hk; have := H.keep.size; omega
 ·have := R.length
  simp at hj this
  exact ⟨by simp; omega, by omega⟩
theorem aout_new (H : Inv K ι h w) {elem : TypeId} {cs : List CVal} {cs' : Array Value} (R : VRs ι cs cs'.toList) (h1 : cs.all CVal.one = true) {s : Sem Next} {id : Nat}
  (hs : s.run P w = ((Go.newRow elem cs').run P w).andThen fun x w => .ok (.value (.pointer (some x))) w) : AOut P K ι id (.ptr id 0) (.cells cs true none) s w :=
 aout_row H R h1 (fun x => .pointer (some x)) (fun _ hi => .ptr _ 0 w.heap.size 0 0 hi) hs
theorem VR.cells {v : CVal} {v' : Value} (hv : VR ι v v') {cs : List CVal} (hc : v.cellsOf = some cs) : VRs ι cs v'.cells.toList ∧ cs.all CVal.one = true := by
 cases hv <;> simp [CVal.cellsOf] at hc <;> first
  | (obtain ⟨hc, rfl⟩ := hc; exact ⟨by simpa [Value.cells] using ‹VRs ι _ _›, by simpa using hc⟩)
  | (subst hc; exact ⟨.cons _ _ _ _ (by first | exact .bool _ | exact .int _ _ | exact .str _ | exact .nilPtr | exact .ptr _ _ _ _ _ ‹_› | exact .nilSlice | exact .slice _ _ _ _ _ _ _ _ ‹_› ‹_› ‹_› | exact .nilMap | exact .map _ _ _ _ ‹_› | exact .nilFunc | exact .func _ _ _ _ _ ‹_› ‹_› | exact .yield _ _ _ _ ‹_› | exact .nilIface | exact .iface _ _ _ ‹_›) .nil, by simp [CVal.one]⟩)
theorem sim_move (H : Inv K ι h w) {X : Operand} {x : CX} (hx : VR ι (x.ev a) (A.eval X)) {o : Oper} (ho : o.op = .move X ∨ o.op = .assign X) {r : CRes} {h' : Heap} (e : cop (.move x) a h = some (r, h')) : OutQ P ι h r h' (execOp A.eval o) w := by
 simp [cop] at e; obtain ⟨rfl, rfl⟩ := e
 refine out_val H (v' := A.eval X) ?_ hx
 rcases ho with ho | ho <;> simp [execOp, ho]
theorem sim_pick (H : Inv K ι h w) {C X Y : Operand} {c x y : CX} (hc : VR ι (c.ev a) (A.eval C)) (hx : VR ι (x.ev a) (A.eval X)) (hy : VR ι (y.ev a) (A.eval Y)) {o : Oper} (ho : o.op = .pick C X Y) {r : CRes} {h' : Heap}
  (e : cop (.pick c x y) a h = some (r, h')) : OutQ P ι h r h' (execOp A.eval o) w := by
 simp only [cop] at e
 split at e
 ·next b hb =>
  simp at e; obtain ⟨rfl, rfl⟩ := e
  rw [hb] at hc
  generalize hC : A.eval C = C' at hc
  cases hc
  refine out_val H (v' := if b then A.eval X else A.eval Y) ?_ (by split <;> assumption)
  simp [execOp, ho, hC, asBool]
 ·simp at e
theorem sim_new (H : Inv K ι h w) {t : TypeId} {zv : Value} {zero : List CVal} (hz : (zeroValue t).run P w = .ok zv w) (R : VRs ι zero zv.cells.toList) (h1 : zero.all CVal.one = true) {o : Oper} (ho : o.op = .alloc t) {id : Nat} {v : CVal} {obj : CObj}
  (e : allocC (.new zero) a id = some (v, obj)) : AOut P K ι id v obj (execOp A.eval o) w := by
 simp [allocC] at e; obtain ⟨rfl, rfl⟩ := e
 refine aout_new H (elem := t) R h1 ?_
 simp [execOp, ho, Instr.alloc, hz, newVar, Result.andThen]
theorem sim_box (H : Inv K ι h w) {t : TypeId} {X : Operand} {x : CX} (hx : VR ι (x.ev a) (A.eval X)) {o : Oper} (ho : o.op = .box t X) {id : Nat} {v : CVal} {obj : CObj}
  (e : allocC (.box x) a id = some (v, obj)) : AOut P K ι id v obj (execOp A.eval o) w := by
 simp only [allocC] at e
 split at e
 ·next cs hcs =>
  simp at e; obtain ⟨rfl, rfl⟩ := e
  obtain ⟨R, h1⟩ := hx.cells hcs
  refine aout_new H (elem := t) R h1 ?_
  simp [execOp, ho, Instr.box, newVar, Result.andThen]
 ·simp at e
theorem sim_load (H : Inv K ι h w) {t : TypeId} {agg : Bool} {n : Nat} (hag : (isAgg t).run P w = .ok agg w) (hn : agg = true → (sizeOf t).run P w = .ok n w) {X : Operand} {x : CX} (hx : VR ι (x.ev a) (A.eval X)) {o : Oper} (ho : o.op = .load t X)
  {r : CRes} {h' : Heap} (e : cop (.load agg n x) a h = some (r, h')) : OutQ P ι h r h' (execOp A.eval o) w := by
 simp only [cop] at e
 split at e
 ·next i off hev =>
  rw [hev] at hx
  generalize hX : A.eval X = X' at hx
  cases hx with
  | ptr _ _ b β ex hi =>
   split at e
   ·next vs wr opn hget =>
    cases agg with
    | true =>
     simp at e
     obtain ⟨hl, rfl, rfl⟩ := e
     obtain ⟨us', hrun, R⟩ := H.loads (P := P) (n := n) hget rfl (by simpa using hl) hi
     have hrun : (loadCells ⟨b, β + off, none⟩ n).run P w = .ok us' w := hrun w.drawn
     refine out_val H (v' := .agg us') ?_ (.agg _ _ R)
     simp [execOp, ho, hX, Instr.loadAt, Instr.sureAddr, loadVar, hag, hn rfl, hrun, Result.andThen]
    | false =>
     simp at e
     split at e
     ·next v hv =>
      simp at e; obtain ⟨rfl, rfl⟩ := e
      obtain ⟨v', hc, hv'⟩ := H.load hget hv hi
      refine out_val H (v' := v') ?_ hv'
      simp [execOp, ho, hX, Instr.loadAt, Instr.sureAddr, loadVar, hag, run_load hc, Result.andThen]
     ·simp at e
   ·simp at e
 ·simp at e
theorem sim_store (H : Inv K ι h w) {t : TypeId} {n : Nat} (hn : (sizeOf t).run P w = .ok n w) {Y X : Operand} {p x : CX} (hp : VR ι (p.ev a) (A.eval Y)) (hx : VR ι (x.ev a) (A.eval X)) {o : Oper} (ho : o.op = .store t Y X)
  {r : CRes} {h' : Heap} (e : cop (.store n p x) a h = some (r, h')) : Out P K ι r h' (execOp A.eval o) w := by
 simp only [cop] at e
 split at e
 ·next i off us hev hus =>
  rw [hev] at hp
  generalize hY : A.eval Y = Y' at hp
  cases hp with
  | ptr _ _ b β ex hi =>
   split at e
   ·next vs opn hget =>
    split at e
    ·next hl =>
     simp at e; obtain ⟨rfl, rfl⟩ := e
     obtain ⟨R, h1⟩ := hx.cells hus
     obtain ⟨w', hrun, H'⟩ := Inv.stores (P := P) (opn := opn) hi us _ vs off 0 h w H hget (by omega) R (fun u hu => List.all_eq_true.1 h1 u hu)
     have hsz : (A.eval X).cells.size = n := by have := R.length; simp at this; omega
     refine ⟨ι, w', .skip, Emb.le.refl _, ?_, by simpa using H', .tuple _ _ .nil⟩
     simp [execOp, ho, hY, Instr.storeAt, Instr.sureAddr, storeVar, hn, hsz, Result.andThen, hrun]
    ·simp at e
   ·simp at e
 ·simp at e
theorem sim_nilCheck (H : Inv K ι h w) {X : Operand} {x : CX} (hx : VR ι (x.ev a) (A.eval X)) {o : Oper} (ho : o.op = .nilCheck X)
  {r : CRes} {h' : Heap} (e : cop (.nilCheck x) a h = some (r, h')) : OutQ P ι h r h' (execOp A.eval o) w := by
 simp only [cop] at e
 generalize hv : x.ev a = v at e hx
 have key : ∀ v', A.eval X = v' → (execOp A.eval o).run P w = .ok (.value v') w → VR ι v v' → r = .val v → h' = h → OutQ P ι h r h' (execOp A.eval o) w := by
  rintro v' _ h1 h2 rfl rfl; exact out_val H h1 h2
 generalize hX : A.eval X = X' at hx
 cases hx <;> simp at e <;> obtain ⟨rfl, rfl⟩ := e <;> refine key _ hX ?_ (by first | exact .bool _ | exact .int _ _ | exact .str _ | exact .ptr _ _ _ _ _ ‹_› | exact .nilSlice | exact .slice _ _ _ _ _ _ _ _ ‹_› ‹_› ‹_› | exact .nilMap | exact .map _ _ _ _ ‹_› | exact .func _ _ _ _ _ ‹_› ‹_› | exact .yield _ _ _ _ ‹_› | exact .agg _ _ ‹_› | exact .tuple _ _ ‹_›) rfl rfl <;> simp [execOp, ho, hX]
theorem sim_iface (H : Inv K ι h w) {t : TypeId} (ht : ∃ d, P.underlying t = some d ∧ ∀ ms, d ≠ .interface ms) {X : Operand} {x : CX} (hx : VR ι (x.ev a) (A.eval X)) {o : Oper} (ho : o.op = .makeInterface t X)
  {r : CRes} {h' : Heap} (e : cop (.iface t x) a h = some (r, h')) : OutQ P ι h r h' (execOp A.eval o) w := by
 simp [cop] at e; obtain ⟨rfl, rfl⟩ := e
 refine out_val H (v' := .iface t (A.eval X)) ?_ (.iface _ _ _ hx)
 obtain ⟨d, hd, hne⟩ := ht
 simp [execOp, ho, Instr.makeInterface, run_underlying hd, Result.andThen]
theorem sim_func (H : Inv K ι h w) {f : FuncId} {F C : Array Operand} {first cap : List CX} (hf : VRs ι (first.map (·.ev a)) (F.toList.map A.eval)) (hc : VRs ι (cap.map (·.ev a)) (C.toList.map A.eval)) {o : Oper} (ho : o.op = .makeFunc (.func f) F C)
  {r : CRes} {h' : Heap} (e : cop (.func f first cap) a h = some (r, h')) : OutQ P ι h r h' (execOp A.eval o) w := by
 simp [cop] at e; obtain ⟨rfl, rfl⟩ := e
 refine out_val H (v' := .func (.func f) (F.map A.eval) (C.map A.eval)) ?_ (.func _ _ _ _ _ (by simpa using hf) (by simpa using hc))
 simp [execOp, ho, Instr.makeFunc]
theorem sim_newMap (H : Inv K ι h w) {t : TypeId} {R : Option Operand} (hR : (match R with | none => True | some X => ∃ k n, A.eval X = .int k n ∧ ∃ x y, P.underlying t = some (.map x y))) {o : Oper} (ho : o.op = .makeMap t R)
  {id : Nat} {v : CVal} {obj : CObj} (e : allocC .newMap a id = some (v, obj)) : AOut P K ι id v obj (execOp A.eval o) w := by
 simp [allocC] at e; obtain ⟨rfl, rfl⟩ := e
 refine ⟨rfl, .map #[] 0, .map (some w.heap.size), ?_, fun ι' hle hi => ⟨.map _ _ 0 0 hi, w.heap.size, 0, #[], 0, hi, by simp, ⟨.nil, .nil⟩, ⟨rfl, rfl⟩, fun _ hk => ?_⟩⟩
 ·cases R with
  | none => simp [execOp, ho, Instr.makeMap, newObj, Sem.run, Result.andThen]
  | some X =>
   obtain ⟨k, n, hX, y, z, hu⟩ := hR
   simp [execOp, ho, Instr.makeMap, newObj, Sem.run, Result.andThen, hX, asInt, asIntOf, run_underlying hu]
 ·have := H.hF _ hk; have := H.keep.size; omega
theorem sim_fieldAddr (H : Inv K ι h w) {s : TypeId} {k : Nat} {fields : Array Field} {f : Field} (hs : P.underlying s = some (.struct fields)) (hf : fields[k]? = some f) {n : Nat} (hn : (sizeOf f.type).run P w = .ok n w) (h0 : n ≠ 0) {X : Operand} {x : CX}
  (hx : VR ι (x.ev a) (A.eval X)) {o : Oper} (ho : o.op = .fieldAddr s X k) {r : CRes} {h' : Heap} (e : cop (.fieldAddr f.offset x) a h = some (r, h')) : OutQ P ι h r h' (execOp A.eval o) w := by
 simp only [cop] at e
 split at e
 ·next i off hev =>
  simp at e; obtain ⟨rfl, rfl⟩ := e
  rw [hev] at hx
  generalize hX : A.eval X = X' at hx
  cases hx with
  | ptr _ _ b β ex hi =>
   refine out_val H (v' := .pointer (some ⟨b, β + (off + f.offset), none⟩)) ?_ (.ptr _ _ _ _ _ hi)
   simp [execOp, ho, hX, Instr.fieldAt, run_underlying hs, hf, Instr.sureAddr, fieldPlace, hn, h0, add_addr, Result.andThen, Nat.add_assoc]
 ·simp at e
theorem partC_sim {w : World} {t : TypeId} {agg : Bool} {n off : Nat} (hag : (isAgg t).run P w = .ok agg w) (hn : agg = true → (sizeOf t).run P w = .ok n w) {cs : List CVal} {cs' : Array Value} (R : VRs ι cs cs'.toList) {v : CVal} (e : partC agg off n cs = some v) :
  ∃ v', (part t cs' off).run P w = .ok v' w ∧ VR ι v v' := by
 unfold partC at e
 cases agg with
 | true =>
  simp at e
  obtain ⟨hl, rfl⟩ := e
  refine ⟨.agg (cs'.extract off (off + n)), by simp [part, hag, hn rfl, Result.andThen], .agg _ _ ?_⟩
  have := (R.drop off).take n
  simpa [Array.toList_extract, List.extract] using this
 | false =>
  simp at e
  obtain ⟨v', h1, h2⟩ := R.get off v e
  refine ⟨v', ?_, h2⟩
  have h3 : cs'[off]? = some v' := by simpa using h1
  simp [part, hag, h3, Result.andThen]
theorem sim_field (H : Inv K ι h w) {s : TypeId} {k : Nat} {fields : Array Field} {f : Field} (hs : P.underlying s = some (.struct fields)) (hf : fields[k]? = some f) {agg : Bool} {n : Nat} (hag : (isAgg f.type).run P w = .ok agg w) (hn : agg = true → (sizeOf f.type).run P w = .ok n w) {X : Operand} {x : CX}
  (hx : VR ι (x.ev a) (A.eval X)) {o : Oper} (ho : o.op = .field s X k) {r : CRes} {h' : Heap} (e : cop (.part agg f.offset n x) a h = some (r, h')) : OutQ P ι h r h' (execOp A.eval o) w := by
 simp only [cop] at e
 split at e
 ·next cs hev =>
  rw [hev] at hx
  generalize hX : A.eval X = X' at hx
  cases hx with
  | agg _ cs' R =>
   split at e
   ·next v hv =>
    simp at e; obtain ⟨rfl, rfl⟩ := e
    obtain ⟨v', hr, hv'⟩ := partC_sim (P := P) (w := w) hag hn R hv
    refine out_val H (v' := v') ?_ hv'
    simp [execOp, ho, hX, Instr.field, run_underlying hs, hf, asAgg, hr, Result.andThen]
   ·simp at e
 ·simp at e
theorem asNat_some {v : CVal} {v' : Value} (hv : VR ι v v') {j : Nat} (e : asNat v = some j) : ∃ k, v' = .int k (j : Int) := by
 cases hv <;> simp [asNat] at e
 next k n => exact ⟨k, by rw [← e.2]; simp; omega⟩
theorem sim_indexAddr (H : Inv K ι h w) {t el : TypeId} {sz : Nat} (ht : P.underlying t = some (.slice el)) (hn : (sizeOf el).run P w = .ok sz w) {X I : Operand} {x i : CX} (hx : VR ι (x.ev a) (A.eval X)) (hi : VR ι (i.ev a) (A.eval I)) {o : Oper} (ho : o.op = .indexAddr t X I)
  {r : CRes} {h' : Heap} (e : cop (.indexAddr sz x i) a h = some (r, h')) : OutQ P ι h r h' (execOp A.eval o) w := by
 simp only [cop] at e
 split at e
 ·next b off l c j hev hj =>
  rw [hev] at hx
  obtain ⟨k, hI⟩ := asNat_some hi hj
  split at e
  ·next hlt =>
   simp at e; obtain ⟨rfl, rfl⟩ := e
   generalize hX : A.eval X = X' at hx
   cases hx with
   | slice _ _ _ _ b' β ex ad hi ha hlc =>
    obtain rfl : ad = ⟨b', β + off, none⟩ := ha.resolve_right (by omega)
    refine out_val H (v' := .pointer (some ⟨b', β + (off + j * sz), none⟩)) ?_ (.ptr _ _ _ _ _ hi)
    have hj0 : (0 : Int) ≤ j ∧ (j : Int) < l := by omega
    simp [execOp, ho, hX, hI, Instr.indexAt, asIntOf, run_underlying ht, hn, hlt, add_addr, Result.andThen, Nat.add_assoc]
  ·simp at e
 ·simp at e
theorem sim_indexAddrArr (H : Inv K ι h w) {t el : TypeId} {len sz : Nat} (ht : P.underlying t = some (.array len el)) (hn : (sizeOf el).run P w = .ok sz w) {X I : Operand} {x i : CX} (hx : VR ι (x.ev a) (A.eval X)) (hi : VR ι (i.ev a) (A.eval I)) {o : Oper} (ho : o.op = .indexAddr t X I)
  {r : CRes} {h' : Heap} (e : cop (.indexAddrArr len sz x i) a h = some (r, h')) : OutQ P ι h r h' (execOp A.eval o) w := by
 simp only [cop] at e
 split at e
 ·next b off j hev hj =>
  rw [hev] at hx
  obtain ⟨k, hI⟩ := asNat_some hi hj
  split at e
  ·next hlt =>
   simp at e; obtain ⟨rfl, rfl⟩ := e
   generalize hX : A.eval X = X' at hx
   cases hx with
   | ptr _ _ b' β ex hi =>
    refine out_val H (v' := .pointer (some ⟨b', β + (off + j * sz), none⟩)) ?_ (.ptr _ _ _ _ _ hi)
    simp [execOp, ho, hX, hI, Instr.indexAt, Instr.sureAddr, asIntOf, run_underlying ht, hn, hlt, add_addr, Result.andThen, Nat.add_assoc]
  ·simp at e
 ·simp at e
theorem sim_indexArr (H : Inv K ι h w) {t el : TypeId} {len sz : Nat} {agg : Bool} (ht : P.underlying t = some (.array len el)) (hag : (isAgg el).run P w = .ok agg w) (hn : (sizeOf el).run P w = .ok sz w) {X I : Operand} {x i : CX} (hx : VR ι (x.ev a) (A.eval X)) (hi : VR ι (i.ev a) (A.eval I)) {o : Oper} (ho : o.op = .index t X I)
  {r : CRes} {h' : Heap} (e : cop (.indexArr len agg sz x i) a h = some (r, h')) : OutQ P ι h r h' (execOp A.eval o) w := by
 simp only [cop] at e
 split at e
 ·next cs j hev hj =>
  rw [hev] at hx
  obtain ⟨k, hI⟩ := asNat_some hi hj
  split at e
  ·next hlt =>
   generalize hX : A.eval X = X' at hx
   cases hx with
   | agg _ cs' R =>
    split at e
    ·next v hv =>
     simp at e; obtain ⟨rfl, rfl⟩ := e
     obtain ⟨v', hr, hv'⟩ := partC_sim (P := P) (w := w) hag (fun _ => hn) R hv
     refine out_val H (v' := v') ?_ hv'
     simp [execOp, ho, hX, hI, Instr.index, asIntOf, run_underlying ht, hn, hlt, hr, Result.andThen]
    ·simp at e
  ·simp at e
 ·simp at e
theorem sim_indexStr (H : Inv K ι h w) {t : TypeId} (ht : P.underlying t = some .string) {X I : Operand} {x i : CX} (hx : VR ι (x.ev a) (A.eval X)) (hi : VR ι (i.ev a) (A.eval I)) {o : Oper} (ho : o.op = .index t X I)
  {r : CRes} {h' : Heap} (e : cop (.indexStr x i) a h = some (r, h')) : OutQ P ι h r h' (execOp A.eval o) w := by
 simp only [cop] at e
 split at e
 ·next s j hev hj =>
  rw [hev] at hx
  obtain ⟨k, hI⟩ := asNat_some hi hj
  split at e
  ·next b hb =>
   simp at e; obtain ⟨rfl, rfl⟩ := e
   generalize hX : A.eval X = X' at hx
   cases hx with
   | str s' =>
    refine out_val H (v' := .int .u8 b.toNat) ?_ (.int _ _)
    have hb' : s'[j]? = some b := by
     simp only [Array.getElem?_toList] at hb
     obtain ⟨hlt, hv⟩ := Array.getElem?_eq_some_iff.1 hb
     have : j < s'.size := hlt
     rw [getElem?_pos s' j this]
     exact congrArg some hv
    simp [execOp, ho, hX, hI, Instr.index, asIntOf, run_underlying ht, hb', Result.andThen]
  ·simp at e
 ·simp at e
end
section
variable {P : Program} {K : Ctx} {ι : Emb} {h : Heap} {w : World} {a : List CVal} {A : Act}
theorem sim_extract (H : Inv K ι h w) {k : Nat} {X : Operand} {x : CX} (hx : VR ι (x.ev a) (A.eval X)) {o : Oper} (ho : o.op = .extract X k)
  {r : CRes} {h' : Heap} (e : cop (.extract x k) a h = some (r, h')) : OutQ P ι h r h' (execOp A.eval o) w := by
 simp only [cop] at e
 split at e
 ·next vs hev =>
  rw [hev] at hx
  generalize hX : A.eval X = X' at hx
  cases hx with
  | tuple _ vs' R =>
   split at e
   ·next v hv =>
    simp at e; obtain ⟨rfl, rfl⟩ := e
    obtain ⟨v', h1, h2⟩ := R.get k v hv
    refine out_val H (v' := v') ?_ h2
    have h3 : vs'[k]? = some v' := by simpa using h1
    simp [execOp, ho, hX, Instr.extract, h3]
   ·simp at e
 ·simp at e
theorem run_strBin {op : BinOp} {s t : ByteArray} {v : CVal} (e : strBin op s.data.toList t.data.toList = some v) : ∃ v', (Op.stringOp op s t).run P w = .ok v' w ∧ VR ι v v' := by
 have hlt : ∀ x y : List UInt8, Op.bytesLess x y = bytesLt x y := by
  intro x
  induction x with
  | nil => intro y; cases y <;> rfl
  | cons b x ih => intro y; cases y with
   | nil => rfl
   | cons c y => simp [Op.bytesLess, bytesLt, ih]
 cases op <;> simp only [strBin, Option.some.injEq, reduceCtorEq] at e
 ·split at e
  ·next hl =>
   simp at e; subst e
   refine ⟨.string (s ++ t), ?_, ?_⟩
   ·have : ¬ ((s.size + t.size : Nat) : Int) > IntKind.i64.max := by
     have h1 : s.size = s.data.toList.length := by rw [Array.length_toList]; rfl
     have h2 : t.size = t.data.toList.length := by rw [Array.length_toList]; rfl
     have : IntKind.i64.max = 9223372036854775807 := by decide
     rw [this]; omega
    simp only [Op.stringOp]
    rw [if_neg this]
    simp
   ·have : s.data.toList ++ t.data.toList = (s ++ t).data.toList := by simp
    rw [this]; exact .str _
  ·simp at e
 all_goals
  subst e
  exact ⟨_, by simp only [Op.stringOp, ByteArray.toList_eq, hlt]; rfl, .bool _⟩
theorem run_intBin {op : BinOp} {k : IntKind} {x y : Int} {v : CVal} (hop : op ≠ .shl ∧ op ≠ .shr) (e : intBin op k x y = some v) (t : TypeId) : ∃ v', (binOp op t (.int k x) (.int k y)).run P w = .ok v' w ∧ VR ι v v' := by
 cases op <;> simp only [intBin, Option.some.injEq, reduceCtorEq] at e <;> first
  | (subst e; exact ⟨_, by simp only [binOp, Op.intArith, Op.intBits, Op.intCmp, ne_eq, not_true_eq_false, if_false]; rfl, by first | exact .int _ _ | exact .bool _⟩)
  | (
   split at e
   ·simp at e
   ·next h0 => simp at e; subst e; exact ⟨_, by simp only [binOp, Op.intDiv, h0, ne_eq, not_true_eq_false, if_false]; rfl, .int _ _⟩)
theorem run_shiftBin {op : BinOp} {k k' : IntKind} {x y : Int} {v : CVal} (e : shiftBin op k x y = some v) (t : TypeId) : ∃ v', (binOp op t (.int k x) (.int k' y)).run P w = .ok v' w ∧ VR ι v v' := by
 unfold shiftBin at e
 split at e
 ·simp at e
 ·next h0 => cases op <;> simp at e <;> (subst e; exact ⟨_, by simp only [binOp, Op.shift, h0, if_false]; rfl, .int _ _⟩)
theorem eqGuard_skip {op : BinOp} {t : TypeId} {X Y : Operand} {x y : Value} (h : (match x, y with | .nilIface, .nilIface => false | .agg _, .agg _ => false | _, _ => true) = true) : (eqGuard op t X Y x y).run P w = .ok () w := by
 cases op <;> first | rfl | (cases x <;> cases y <;> first | rfl | simp at h)
theorem sim_bin (H : Inv K ι h w) {op : BinOp} {t t' : TypeId} {X Y : Operand} {x y : CX} (hx : VR ι (x.ev a) (A.eval X)) (hy : VR ι (y.ev a) (A.eval Y)) {o : Oper} (ho : o.op = .binOp op t X Y t')
  {r : CRes} {h' : Heap} (e : cop (.bin op x y) a h = some (r, h')) : OutQ P ι h r h' (execOp A.eval o) w := by
 simp only [cop] at e
 split at e
 ·next v hv =>
  simp at e; obtain ⟨rfl, rfl⟩ := e
  generalize x.ev a = u at hx hv
  generalize y.ev a = s at hy hv
  generalize hX : A.eval X = X' at hx
  generalize hY : A.eval Y = Y' at hy
  have hrun : ∃ v', (binOp op t X' Y').run P w = .ok v' w ∧ VR ι v v' := by
   cases hx <;> cases hy <;> simp [binC] at hv
   ·next k n k' m =>
    split at hv
    ·exact run_shiftBin hv t
    ·exact run_shiftBin hv t
    ·next h1 h2 =>
     split at hv
     ·next hk => subst hk; exact run_intBin ⟨fun e1 => h1 e1, fun e1 => h2 e1⟩ hv t
     ·simp at hv
   ·next s1 s2 =>
    obtain ⟨v', h1, h2⟩ := run_strBin (P := P) (w := w) (ι := ι) hv
    exact ⟨v', by cases op <;> first | exact h1 | (simp [strBin] at hv; done), h2⟩
  obtain ⟨v', hr, hv'⟩ := hrun
  refine out_val H (v' := v') ?_ hv'
  have hg : (eqGuard op t X Y X' Y').run P w = .ok () w := by
   apply eqGuard_skip
   cases hx <;> cases hy <;> first | rfl | simp [binC] at hv
  simp [execOp, ho, hX, hY, hg, hr, Result.andThen]
 ·simp at e
def TK.fits : TK → TypeDesc → Bool
 | .bool, .bool | .ptr, .pointer _ | .slice, .slice _ | .map, .map .. | .func, .func .. | .iface, .interface _ => true
 | _, _ => false
def isConstX : Operand → Bool
 | .const _ => true
 | _ => false
theorem run_keq_at {tk : TK} {d : TypeDesc} {t : TypeId} (ht : P.underlying t = some d) (hf : tk.fits d = true) {u s : CVal} {u' s' : Value} (hu : VR ι u u') (hs : VR ι s s') {b : Bool} (e : keq tk u s = some b) (n : Nat) : (Op.equalIn (n + 1) t u' s').run P w = .ok b w := by
 cases tk <;> cases d <;> simp [TK.fits] at hf <;> cases hu <;> cases hs <;> simp [keq] at e <;> subst e <;> simp [Op.equalIn, run_underlying ht, Result.andThen]
theorem run_keq {tk : TK} {d : TypeDesc} {t : TypeId} (ht : P.underlying t = some d) (hf : tk.fits d = true) {u s : CVal} {u' s' : Value} (hu : VR ι u u') (hs : VR ι s s') {b : Bool} (e : keq tk u s = some b) : (Op.equal t u' s').run P w = .ok b w :=
 run_keq_at ht hf hu hs e 9999
theorem sim_eq (H : Inv K ι h w) {neg : Bool} {tk : TK} {d : TypeDesc} {t t' : TypeId} (ht : P.underlying t = some d) (hf : tk.fits d = true) {X Y : Operand} (hc : tk = .iface → (isConstX X || isConstX Y) = true) {x y : CX} (hx : VR ι (x.ev a) (A.eval X)) (hy : VR ι (y.ev a) (A.eval Y))
  {o : Oper} (ho : o.op = .binOp (if neg then .neq else .eql) t X Y t')
  {r : CRes} {h' : Heap} (e : cop (.eq tk neg x y) a h = some (r, h')) : OutQ P ι h r h' (execOp A.eval o) w := by
 simp only [cop] at e
 split at e
 ·next b hb =>
  simp at e; obtain ⟨rfl, rfl⟩ := e
  have hr := run_keq (P := P) (w := w) ht hf hx hy hb
  generalize x.ev a = u at hx hb
  generalize y.ev a = s at hy hb
  generalize hX : A.eval X = X' at hx hr
  generalize hY : A.eval Y = Y' at hy hr
  have hg : ∀ op, (eqGuard op t X Y X' Y').run P w = .ok () w := by
   intro op
   by_cases hi : tk = .iface
   ·have hc' := hc hi
    subst hi
    cases op <;> first | rfl | skip
    all_goals
     cases hx <;> cases hy <;> simp [keq] at hb <;> first | rfl | (cases X <;> cases Y <;> simp [isConstX] at hc' <;> rfl)
   ·apply eqGuard_skip
    cases hx <;> cases hy <;> first | rfl | (cases tk <;> simp [keq] at hb hi)
  have hbin : (binOp (if neg then .neq else .eql) t X' Y').run P w = .ok (.bool (if neg then !b else b)) w := by
   cases neg
   ·cases hx <;> cases hy <;> first | (cases tk <;> simp [keq] at hb; done) | simp [binOp, hr, Result.andThen]
   ·cases hx <;> cases hy <;> first | (cases tk <;> simp [keq] at hb; done) | simp [binOp, hr, Result.andThen]
  refine out_val H (v' := .bool (if neg then !b else b)) ?_ (.bool _)
  simp [execOp, ho, hX, hY, hg, hbin, Result.andThen]
 ·simp at e
theorem sim_un (H : Inv K ι h w) {op : UnOp} {t : TypeId} {X : Operand} {x : CX} (hx : VR ι (x.ev a) (A.eval X)) {o : Oper} (ho : o.op = .unOp op t X)
  {r : CRes} {h' : Heap} (e : cop (.un op x) a h = some (r, h')) : OutQ P ι h r h' (execOp A.eval o) w := by
 simp only [cop] at e
 split at e
 ·next v hv =>
  simp at e; obtain ⟨rfl, rfl⟩ := e
  generalize x.ev a = u at hx hv
  generalize hX : A.eval X = X' at hx
  have hrun : ∃ v', (Op.unary op X').run P w = .ok v' w ∧ VR ι v v' := by
   cases hx <;> simp only [unC, reduceCtorEq] at hv <;> cases op <;> simp only [Option.some.injEq, reduceCtorEq] at hv <;> subst hv
   ·exact ⟨_, by simp only [Op.unary]; rfl, .bool _⟩
   ·exact ⟨_, by simp only [Op.unary, Op.intArith]; rfl, .int _ _⟩
   ·exact ⟨_, by simp only [Op.unary, Op.intBits]; rfl, .int _ _⟩
  obtain ⟨v', hr, hv'⟩ := hrun
  refine out_val H (v' := v') ?_ hv'
  simp [execOp, ho, hX, hr, Result.andThen]
 ·simp at e
theorem sim_conv (H : Inv K ι h w) {s d : TypeId} {ds : TypeDesc} {k : IntKind} (hs : P.underlying s = some ds) (hd : P.underlying d = some (.int k)) {X : Operand} {x : CX} (hx : VR ι (x.ev a) (A.eval X)) {o : Oper} (ho : o.op = .convert s d X)
  {r : CRes} {h' : Heap} (e : cop (.conv k x) a h = some (r, h')) : OutQ P ι h r h' (execOp A.eval o) w := by
 simp only [cop] at e
 split at e
 ·next k' n hev =>
  simp at e; obtain ⟨rfl, rfl⟩ := e
  rw [hev] at hx
  generalize hX : A.eval X = X' at hx
  cases hx
  refine out_val H (v' := .int k (k.wrap n)) ?_ (.int _ _)
  simp [execOp, ho, hX, convert, run_underlying hs, run_underlying hd, Conv.intToInt, Result.andThen]
 ·simp at e
end
section
variable {P : Program} {K : Ctx} {ι : Emb} {h : Heap} {w : World} {a : List CVal} {A : Act}
def OR (ι : Emb) : Option CVal → Option Value → Prop
 | none, none => True
 | some v, some v' => VR ι v v'
 | _, _ => False
theorem Inv.evo (H : Inv K ι h w) {X : Option Operand} {x : Option CX} (hx : compXo X = some x) (R : ∀ t, X = some (.tmp t) → TmpR ι a A t) (hg : ∀ Y, X = some Y → globOk K.glb Y = true) : OR ι (x.map (·.ev a)) (X.map A.eval) := by
 cases X with
 | none => simp [compXo] at hx; subst hx; trivial
 | some X =>
  simp [compXo] at hx
  obtain ⟨c, h1, rfl⟩ := hx
  exact H.ev' h1 (fun t e => R t (by rw [e])) (hg X rfl)
theorem run_sliceBound {v : CVal} {v' : Value} (hv : VR ι v v') {j y : Nat} (e : asNat v = some j) (hy : j ≤ y) (c : BoundsCode) : (Instr.sliceBound v' y c).run P w = .ok j w := by
 obtain ⟨k, rfl⟩ := asNat_some hv e
 have : (0 : Int) ≤ j ∧ (j : Int) ≤ y := by omega
 simp only [Instr.sliceBound, asIntOf]
 rw [show (do let (k', i) ← (pure (k, (j : Int)) : Sem (IntKind × Int)); if 0 ≤ i ∧ i ≤ y then pure i.toNat else boundsPanic k' i y c) = (if (0 : Int) ≤ j ∧ (j : Int) ≤ y then pure (j : Int).toNat else boundsPanic k j y c) from rfl, if_pos this]
 simp
theorem run_bounds {isS : Bool} {len cap ex : Nat} {lo hi mx : Option CVal} {lo' hi' mx' : Option Value} (hlo : OR ι lo lo') (hhi : OR ι hi hi') (hmx : OR ι mx mx') {l b m : Nat} (e : boundsC len cap lo hi mx = some (l, b, m)) :
  (Instr.sliceBounds isS len (cap + ex) lo' hi' mx').run P w = .ok (l, b, if mx.isSome then m else cap + ex) w ∧ l ≤ b ∧ b ≤ m ∧ m ≤ cap ∧ (mx = none → m = cap) := by
 unfold boundsC at e
 split at e
 ·simp at e
 ·next m1 hm1 =>
  split at e
  ·next hmc =>
   split at e
   ·simp at e
   ·next b1 hb1 =>
    split at e
    ·next hbm =>
     split at e
     ·simp at e
     ·next l1 hl1 =>
      split at e
      ·next hlb =>
       simp at e
       obtain ⟨rfl, rfl, rfl⟩ := e
       refine ⟨?_, hlb, hbm, hmc, fun hn => by subst hn; simpa using hm1.symm⟩
       have hlo1 : ∀ c, (match lo' with | some v => Instr.sliceBound v b1 c | none => pure 0 : Sem Nat).run P w = .ok l1 w := by
        intro c
        cases lo with
        | none => cases lo' with
         | none => simp at hl1; subst hl1; rfl
         | some _ => exact hlo.elim
        | some v => cases lo' with
         | none => exact hlo.elim
         | some v' => exact run_sliceBound hlo hl1 hlb c
       cases mx with
       | none =>
        cases mx' with
        | some _ => exact hmx.elim
        | none =>
         simp at hm1; subst hm1
         cases hi with
         | none => cases hi' with
          | some _ => exact hhi.elim
          | none =>
           simp at hb1; subst hb1
           have := hlo1 .sliceB
           cases lo' <;> simp only at this <;> simp only [Instr.sliceBounds, Sem.run_bind, Sem.run_pure, Result.andThen, this, Option.isSome_none, Bool.false_eq_true, if_false] <;> first | done | (simp at this; subst this; rfl)
         | some v => cases hi' with
          | none => exact hhi.elim
          | some v' =>
           have h1 : ∀ c, (Instr.sliceBound v' (cap + ex) c).run P w = .ok b1 w := fun c => run_sliceBound hhi (by simpa using hb1) (by omega) c
           have := hlo1 .sliceB
           cases lo' <;> simp only at this <;> simp only [Instr.sliceBounds, Sem.run_bind, Sem.run_pure, Result.andThen, this, h1, Option.isSome_none, Bool.false_eq_true, if_false] <;> first | done | (simp at this; subst this; rfl)
       | some u =>
        cases mx' with
        | none => exact hmx.elim
        | some u' =>
         cases hi with
         | none => simp at hb1
         | some v => cases hi' with
          | none => exact hhi.elim
          | some v' =>
           have h0 : ∀ c, (Instr.sliceBound u' (cap + ex) c).run P w = .ok m1 w := fun c => run_sliceBound hmx (by simpa using hm1) (by omega) c
           have h1 : ∀ c, (Instr.sliceBound v' m1 c).run P w = .ok b1 w := fun c => run_sliceBound hhi (by simpa using hb1) hbm c
           have := hlo1 .slice3C
           cases lo' <;> simp only at this <;> simp only [Instr.sliceBounds, Sem.run_bind, Sem.run_pure, Result.andThen, this, h0, h1, Option.isSome_some, if_true] <;> first | done | (simp at this; subst this; rfl)
      ·simp at e
    ·simp at e
  ·simp at e
theorem extract_toList (s : ByteArray) (l b : Nat) : (s.extract l b).data.toList = (s.data.toList.drop l).take (b - l) := by
 have : s = ⟨s.data.toList.toArray⟩ := by simp
 rw [this, ByteArray.extract_mk]
theorem sim_sliceStr (H : Inv K ι h w) {t : TypeId} (ht : P.underlying t = some .string) {X : Operand} {L U : Option Operand} {x : CX} {lo hi : Option CX} (hx : VR ι (x.ev a) (A.eval X)) (hlo : OR ι (lo.map (·.ev a)) (L.map A.eval)) (hhi : OR ι (hi.map (·.ev a)) (U.map A.eval)) {o : Oper} (ho : o.op = .slice t X L U none)
  {r : CRes} {h' : Heap} (e : cop (.sliceStr x lo hi) a h = some (r, h')) : OutQ P ι h r h' (execOp A.eval o) w := by
 simp only [cop] at e
 split at e
 ·next s hev =>
  rw [hev] at hx
  split at e
  ·next l b m hb =>
   simp at e; obtain ⟨rfl, rfl⟩ := e
   generalize hX : A.eval X = X' at hx
   cases hx with
   | str s' =>
    have hsz : s'.data.toList.length = s'.size := by rw [Array.length_toList]; rfl
    rw [hsz] at hb
    obtain ⟨hr, _⟩ := run_bounds (P := P) (w := w) (isS := false) (ex := 0) (mx := none) (mx' := none) hlo hhi (by trivial) hb
    refine out_val H (v' := .string (s'.extract l b)) ?_ (by rw [← extract_toList]; exact .str _)
    simp at hr
    simp [execOp, ho, hX, Instr.sliceAt, Instr.slice, run_underlying ht, hr, Result.andThen]
  ·simp at e
 ·simp at e
theorem sim_slice (H : Inv K ι h w) {t el : TypeId} {sz : Nat} (ht : P.underlying t = some (.slice el)) (hn : (sizeOf el).run P w = .ok sz w) {X : Operand} {L U M : Option Operand} {x : CX} {lo hi mx : Option CX} (hx : VR ι (x.ev a) (A.eval X)) (hlo : OR ι (lo.map (·.ev a)) (L.map A.eval)) (hhi : OR ι (hi.map (·.ev a)) (U.map A.eval)) (hmx : OR ι (mx.map (·.ev a)) (M.map A.eval))
  {o : Oper} (ho : o.op = .slice t X L U M) {r : CRes} {h' : Heap} (e : cop (.slice sz x lo hi mx) a h = some (r, h')) : OutQ P ι h r h' (execOp A.eval o) w := by
 simp only [cop] at e
 split at e
 ·next hev =>
  rw [hev] at hx
  split at e
  ·next lbm hb =>
   obtain ⟨l, b, m⟩ := lbm
   simp at e; obtain ⟨rfl, rfl⟩ := e
   generalize hX : A.eval X = X' at hx
   cases hx
   obtain ⟨hr, h1, h2, h3, h4⟩ := run_bounds (P := P) (w := w) (isS := true) (ex := 0) hlo hhi hmx hb
   have e1 : m = 0 := by omega
   have e2 : b = 0 := by omega
   have e3 : l = 0 := by omega
   subst e1 e2 e3
   simp at hr
   refine out_val H (v' := .slice none 0 0) ?_ .nilSlice
   simp [execOp, ho, hX, Instr.sliceAt, Instr.slice, run_underlying ht, hr, hn, Result.andThen]
  ·simp at e
 ·next i off len cap hev =>
  rw [hev] at hx
  split at e
  ·simp at e
  ·next hex =>
   split at e
   ·next l b m hb =>
    simp at e; obtain ⟨rfl, rfl⟩ := e
    generalize hX : A.eval X = X' at hx
    cases hx with
    | slice _ _ _ _ b' β ex ad hi' ha hlc =>
     obtain ⟨hr, h1, h2, h3, h4⟩ := run_bounds (P := P) (w := w) (isS := true) (ex := ex) hlo hhi hmx hb
     refine out_val H (v' := .slice (some (if (if (mx.map (·.ev a)).isSome then m else cap + ex) = l then ad else ad.add (l * sz))) (b - l) ((if (mx.map (·.ev a)).isSome then m else cap + ex) - l)) ?_ ?_
     ·simp only [execOp, ho, hX, Instr.sliceAt, Instr.slice]
      simp only [Sem.run_bind, run_underlying ht, Result.andThen, hr, hn, Sem.run_pure]
      by_cases hq : (if (mx.map (·.ev a)).isSome then m else cap + ex) = l
      ·simp only [hq, if_true]
      ·simp only [hq, if_false]; rfl
     ·have hm' : (if (mx.map (·.ev a)).isSome then m else cap + ex) - l = (m - l) + ex := by
       cases hmx' : mx with
       | none => simp; have := h4 (by simp [hmx']); omega
       | some _ =>
        have : exactC h i = true := by
         cases hq : exactC h i with
         | true => rfl
         | false => exact absurd ⟨by simp [hmx'], hq⟩ hex
        unfold exactC at this
        split at this
        ·next vs wr hget =>
         have := (H.cells hget hi').choose_spec.choose_spec.choose_spec.choose_spec.2.2.1 rfl
         simp; omega
        ·simp at this
      rw [hm']
      refine .slice _ _ _ _ b' β ex _ hi' ?_ (by omega)
      by_cases h0 : (m - l) + ex = 0
      ·exact .inr h0
      ·left
       rw [if_neg (by omega)]
       obtain rfl : ad = ⟨b', β + off, none⟩ := ha.resolve_right (by omega)
       rw [add_addr]; congr 1; omega
   ·simp at e
 ·simp at e
theorem sim_sliceArr (H : Inv K ι h w) {t el : TypeId} {n sz : Nat} (ht : P.underlying t = some (.array n el)) (hn : (sizeOf el).run P w = .ok sz w) {X : Operand} {L U M : Option Operand} {x : CX} {lo hi mx : Option CX} (hx : VR ι (x.ev a) (A.eval X)) (hlo : OR ι (lo.map (·.ev a)) (L.map A.eval)) (hhi : OR ι (hi.map (·.ev a)) (U.map A.eval)) (hmx : OR ι (mx.map (·.ev a)) (M.map A.eval))
  {o : Oper} (ho : o.op = .slice t X L U M) {r : CRes} {h' : Heap} (e : cop (.sliceArr n sz x lo hi mx) a h = some (r, h')) : OutQ P ι h r h' (execOp A.eval o) w := by
 simp only [cop] at e
 split at e
 ·next i off hev =>
  rw [hev] at hx
  split at e
  ·simp at e
  ·next hex =>
   split at e
   ·next l b m hb =>
    simp at e; obtain ⟨rfl, rfl⟩ := e
    generalize hX : A.eval X = X' at hx
    cases hx with
    | ptr _ _ b' β ex hi' =>
     obtain ⟨hr, h1, h2, h3, h4⟩ := run_bounds (P := P) (w := w) (isS := false) (ex := 0) hlo hhi hmx hb
     have h0 : ex = 0 := by
      unfold exactC at hex
      split at hex
      ·next vs wr hget => exact (H.cells hget hi').choose_spec.choose_spec.choose_spec.choose_spec.2.2.1 rfl
      ·simp at hex
     subst h0
     have hm' : (if (mx.map (·.ev a)).isSome then m else n + 0) = m := by
      cases hmx' : mx with
      | none => simp; exact (h4 (by simp [hmx'])).symm
      | some _ => simp
     rw [hm'] at hr
     refine out_val H (v' := .slice (some (if m = l then ⟨b', β + off, none⟩ else (⟨b', β + off, none⟩ : Addr).add (l * sz))) (b - l) (m - l)) ?_ ?_
     ·simp only [execOp, ho, hX, Instr.sliceAt]
      simp only [Sem.run_bind, run_underlying ht, Result.andThen, Instr.sureAddr, Sem.run_pure]
      simp only [Nat.add_zero] at hr
      simp only [hr, hn]
     ·refine .slice i (off + l * sz) (b - l) (m - l) b' β 0 _ hi' ?_ (by omega)
      by_cases h0 : m = l
      ·exact .inr (by omega)
      ·left; rw [if_neg h0, add_addr]; congr 1; omega
   ·simp at e
 ·simp at e
def LK.fits : LK → TypeDesc → Bool
 | .str, .string | .slice, .slice _ | .map, .map .. => true
 | _, _ => false
theorem sim_len (H : Inv K ι h w) {k : LK} {t : TypeId} {d : TypeDesc} (ht : P.underlying t = some d) (hd : k.fits d = true) {X : Operand} {x : CX} (hx : VR ι (x.ev a) (A.eval X))
  {o : Oper} {args : Array Operand} {ats : Array TypeId} (ho : o.op = .call { callee := .builtin .len, args := args, argTypes := ats }) (hargs : args.toList = [X]) (hats : ats.toList = [t])
  {r : CRes} {h' : Heap} (e : cop (.len k x) a h = some (r, h')) : OutQ P ι h r h' (execOp A.eval o) w := by
 simp only [cop] at e
 obtain rfl : args = #[X] := by cases args; simp_all
 obtain rfl : ats = #[t] := by cases ats; simp_all
 generalize hX : A.eval X = X' at hx
 have key : ∀ n : Int, (Builtin.len_ #[t] o.type #[X']).run P w = .ok (.int .i64 n) w → r = .val (.int .i64 n) → h' = h → OutQ P ι h r h' (execOp A.eval o) w := by
  rintro n h1 rfl rfl
  refine out_val H (v' := .int .i64 n) ?_ (.int _ _)
  simp [execOp, ho, hX, resolve, invoke, builtin, h1, Result.andThen]
 generalize x.ev a = v at hx e
 cases hx with
 | str s =>
  cases k <;> simp at e
  cases d <;> simp [LK.fits] at hd
  obtain ⟨rfl, rfl⟩ := e
  exact key _ (by simp [Builtin.len_, run_underlying ht, goInt, Result.andThen]; try rfl) rfl rfl
 | nilSlice =>
  cases k <;> simp at e
  cases d <;> simp [LK.fits] at hd
  obtain ⟨rfl, rfl⟩ := e
  exact key 0 (by simp [Builtin.len_, run_underlying ht, goInt, Result.andThen]) rfl rfl
 | slice i off l c b β ex ad hi ha hlc =>
  cases k <;> simp at e
  cases d <;> simp [LK.fits] at hd
  obtain ⟨rfl, rfl⟩ := e
  exact key _ (by simp [Builtin.len_, run_underlying ht, goInt, Result.andThen]) rfl rfl
 | nilMap =>
  cases k <;> simp at e
  cases d <;> simp [LK.fits] at hd
  obtain ⟨rfl, rfl⟩ := e
  exact key 0 (by simp [Builtin.len_, run_underlying ht, goInt, Result.andThen]) rfl rfl
 | map i b β ex hi =>
  cases k <;> simp at e
  cases d <;> simp [LK.fits] at hd
  split at e
  ·next es wr st hget =>
   simp at e; obtain ⟨rfl, rfl⟩ := e
   obtain ⟨b1, e1, E, c, h1, h2, h3, hst, h4⟩ := H.obj i _ hget
   rw [hi] at h1; simp at h1; obtain ⟨rfl, rfl, rfl⟩ := h1
   have hl : es.length = E.size := by have := h3.1.length; simpa using this
   refine key (es.length : Int) ?_ rfl rfl
   simp [Builtin.len_, run_underlying ht, goInt, Result.andThen, getObj, Sem.run, h2, hl]
  ·simp at e
 | _ => cases k <;> simp at e
theorem sim_lenArr (H : Inv K ι h w) {t el : TypeId} {n : Nat} (ht : P.underlying t = some (.array n el)) {X : Operand} {o : Oper} {args : Array Operand} {ats : Array TypeId} (ho : o.op = .call { callee := .builtin .len, args := args, argTypes := ats }) (hargs : args.toList = [X]) (hats : ats.toList = [t])
  {r : CRes} {h' : Heap} (e : cop (.move (.c (.int .i64 n))) a h = some (r, h')) : OutQ P ι h r h' (execOp A.eval o) w := by
 simp [cop, CX.ev] at e; obtain ⟨rfl, rfl⟩ := e
 obtain rfl : args = #[X] := by cases args; simp_all
 obtain rfl : ats = #[t] := by cases ats; simp_all
 refine out_val H (v' := .int .i64 n) ?_ (.int _ _)
 simp [execOp, ho, resolve, invoke, builtin, Builtin.len_, run_underlying ht, goInt, Result.andThen]
end
section
variable {P : Program} {K : Ctx} {ι : Emb} {h : Heap} {w : World} {a : List CVal} {A : Act}
theorem putCells_zipIdx (us : List Value) : ∀ (off k : Nat) (cs : Array Value), ((us.toArray.zipIdx k).foldl (fun cs (c, j) => cs.setIfInBounds (off + j) c) cs) = ((us.zipIdx k).foldl (fun cs (c, j) => cs.setIfInBounds (off + j) c) cs) := by
 intro off k cs
 rw [← Array.foldl_toList]
 simp
def putV (vs : List Value) (o : Nat) : List Value → List Value
 | [] => vs
 | u :: us => putV (vs.set o u) (o + 1) us
theorem foldl_putV (us : List Value) : ∀ (off k : Nat) (cs : Array Value), ((us.zipIdx k).foldl (fun cs (c, j) => cs.setIfInBounds (off + j) c) cs).toList = putV cs.toList (off + k) us := by
 induction us with
 | nil => intro off k cs; rfl
 | cons u us ih =>
  intro off k cs
  simp only [List.zipIdx_cons, List.foldl_cons]
  rw [ih, putV]
  simp [Nat.add_assoc]
theorem VRs.put {us : List CVal} {us' : List Value} (hu : VRs ι us us') : ∀ {vs : List CVal} {vs' : List Value} (o : Nat), VRs ι vs vs' → VRs ι (putCells vs o us) (putV vs' o us') := by
 induction us generalizing us' with
 | nil => intro vs vs' o hv; cases hu; exact hv
 | cons u us ih =>
  intro vs vs' o hv
  cases hu with
  | cons _ _ u' us' h1 h2 => exact ih h2 (o + 1) (hv.set h1 o)
theorem fill_sim {place : Nat → Option (Nat × Nat)} : ∀ (ps : List (Nat × Nat × CVal)) (qs : List (Nat × Value)) (cs : List CVal) (cs' : Array Value), ps.length = qs.length →
  (∀ (j : Nat) (p : Nat × Nat × CVal) (q : Nat × Value), ps[j]? = some p → qs[j]? = some q → place q.1 = some (p.1, p.2.1) ∧ VR ι p.2.2 q.2) → VRs ι cs cs'.toList → ∀ r, fillC cs ps = some r → ∃ r', Instr.fill place cs' qs = some r' ∧ VRs ι r r'.toList
 | [], [], cs, cs', _, _, R, r, e => by simp [fillC] at e; subst e; exact ⟨cs', rfl, R⟩
 | (off, n, v) :: ps, (i, v') :: qs, cs, cs', hl, hp, R, r, e => by
  obtain ⟨h1, h2⟩ := hp 0 _ _ rfl rfl
  simp only [fillC] at e
  split at e
  ·next us hus =>
   split at e
   ·next hc =>
    obtain ⟨Ru, _⟩ := h2.cells hus
    have hlen := Ru.length
    have hlen' := R.length
    simp at hlen hlen'
    have hfold : ((v'.cells.zipIdx.foldl (fun cs (c, j) => cs.setIfInBounds (off + j) c) cs')).toList = putV cs'.toList off v'.cells.toList := by
     have := foldl_putV v'.cells.toList off 0 cs'
     rw [← putCells_zipIdx] at this
     simpa using this
    have R' : VRs ι (putCells cs off us) (v'.cells.zipIdx.foldl (fun cs (c, j) => cs.setIfInBounds (off + j) c) cs').toList := by
     rw [hfold]; exact Ru.put off R
    obtain ⟨r', h3, h4⟩ := fill_sim ps qs _ _ (by simpa using hl) (fun j p q hpj hqj => hp (j + 1) p q (by simpa using hpj) (by simpa using hqj)) R' r e
    refine ⟨r', ?_, h4⟩
    simp only at h1
    simp only [Instr.fill, h1]
    have e1 : v'.cells.size = n := by rw [← hlen]; exact hc.1
    have e2 : off + n ≤ cs'.size := by rw [← hlen']; exact hc.2
    rw [if_neg (by simp only [e1, Bool.or_eq_true, decide_eq_true_eq, ne_eq, not_true_eq_false, false_or]; omega)]
    exact h3
   ·simp at e
  ·simp at e
def partsOk (place : Nat → Option (Nat × Nat)) : List (Nat × Operand) → Option (List (Nat × Nat × CX))
 | [] => some []
 | (i, X) :: ps => match place i, compX X, partsOk place ps with
  | some (off, n), some x, some qs => some ((off, n, x) :: qs)
  | _, _, _ => none
theorem parts_rel (H : Inv K ι h w) {place : Nat → Option (Nat × Nat)} : ∀ (ps : List (Nat × Operand)) (qs : List (Nat × Nat × CX)), partsOk place ps = some qs → (∀ t, Operand.tmp t ∈ ps.map (·.2) → TmpR ι a A t) → (∀ p ∈ ps, globOk K.glb p.2 = true) →
  (qs.map fun p => (p.1, p.2.1, p.2.2.ev a)).length = (ps.map fun p => (p.1, A.eval p.2)).length ∧
  ∀ (j : Nat) (p : Nat × Nat × CVal) (q : Nat × Value), (qs.map fun p => (p.1, p.2.1, p.2.2.ev a))[j]? = some p → (ps.map fun p => (p.1, A.eval p.2))[j]? = some q → place q.1 = some (p.1, p.2.1) ∧ VR ι p.2.2 q.2
 | [], qs, e, _, _ => by simp [partsOk] at e; subst e; simp
 | (i, X) :: ps, qs, e, R, hg => by
  simp only [partsOk] at e
  split at e
  ·next off n x rest h1 h2 h3 =>
   simp at e; subst e
   obtain ⟨hl, hr⟩ := parts_rel H ps rest h3 (fun t ht => R t (by simp only [List.map_cons, List.mem_cons]; exact .inr ht)) (fun p hp => hg p (by simp [hp]))
   refine ⟨by simpa using hl, fun j p q hp hq => ?_⟩
   cases j with
   | zero =>
    simp at hp hq; subst hp; subst hq
    exact ⟨h1, H.ev' h2 (fun t e => R t (by simp [e])) (hg (i, X) (by simp))⟩
   | succ j => exact hr j p q (by simpa using hp) (by simpa using hq)
  ·simp at e
theorem sim_build (H : Inv K ι h w) {t : TypeId} {place : Nat → Option (Nat × Nat)} {zv : Value} (hz : (zeroValue t).run P w = .ok zv w) {zero : List CVal} (Rz : VRs ι zero zv.cells.toList) {parts : Array (Nat × Operand)} {qs : List (Nat × Nat × CX)}
  (hp : (qs.map fun p => (p.1, p.2.1, p.2.2.ev a)).length = (parts.toList.map fun p => (p.1, A.eval p.2)).length ∧
   ∀ (j : Nat) (p : Nat × Nat × CVal) (q : Nat × Value), (qs.map fun p => (p.1, p.2.1, p.2.2.ev a))[j]? = some p → (parts.toList.map fun p => (p.1, A.eval p.2))[j]? = some q → place q.1 = some (p.1, p.2.1) ∧ VR ι p.2.2 q.2)
  (hb : ∀ (ps : Array (Nat × Value)) r, Instr.fill place zv.cells ps.toList = some r → (Instr.build t ps).run P w = .ok (.agg r) w) {o : Oper} (ho : o.op = .build t parts)
  {r : CRes} {h' : Heap} (e : cop (.build zero qs) a h = some (r, h')) : OutQ P ι h r h' (execOp A.eval o) w := by
 have _ := hz
 simp only [cop] at e
 split at e
 ·next cs hcs =>
  simp at e; obtain ⟨rfl, rfl⟩ := e
  obtain ⟨r', h1, h2⟩ := fill_sim _ _ zero zv.cells hp.1 hp.2 Rz cs hcs
  refine out_val H (v' := .agg r') ?_ (.agg _ _ h2)
  have := hb (parts.map fun (i, x) => (i, A.eval x)) r' (by simpa using h1)
  simp [execOp, ho, this, Result.andThen]
 ·simp at e
theorem repC_rel {zero : List CVal} {z : Array Value} (R : VRs ι zero z.toList) (n sz : Nat) (hsz : z.size = sz) : VRs ι (repC n zero) ((Array.range (n * sz)).map (fun i => z[i % z.size]!)).toList := by
 have key : ((Array.range (n * sz)).map (fun i => z[i % z.size]!)).toList = (List.replicate n z.toList).flatten := by
  apply List.ext_getElem?
  intro j
  by_cases hj : j < n * sz
  ·have h0 : 0 < sz := by
    rcases Nat.eq_zero_or_pos sz with h0 | h0
    ·subst h0; omega
    ·exact h0
   have h1 : j % sz < sz := Nat.mod_lt _ h0
   have h2 : ((List.replicate n z.toList).flatten)[j]? = z.toList[j % sz]? := by
    have hzl : z.toList.length = sz := by simpa using hsz
    clear hsz R
    induction n generalizing j with
    | zero => simp at hj
    | succ n ih =>
     rw [List.replicate_succ, List.flatten_cons]
     by_cases hjs : j < sz
     ·rw [List.getElem?_append_left (by omega), Nat.mod_eq_of_lt hjs]
     ·rw [List.getElem?_append_right (by omega), hzl, ih (j - sz) (by rw [Nat.succ_mul] at hj; omega) (by rw [← Nat.mod_eq_sub_mod (by omega)]; exact h1), ← Nat.mod_eq_sub_mod (by omega)]
   rw [h2]
   simp [hj, hsz, h1]
  ·rw [List.getElem?_eq_none (by simp; omega), List.getElem?_eq_none (by simp [hsz]; omega)]
 rw [key]
 clear key
 induction n with
 | zero => exact .nil
 | succ n ih => simpa [repC, List.replicate_succ] using R.append ih
end
section
variable {P : Program} {K : Ctx} {ι : Emb} {h : Heap} {w : World} {a : List CVal} {A : Act}
theorem repC_all {zero : List CVal} (hz : zero.all CVal.one = true) : ∀ n, (repC n zero).all CVal.one = true
 | 0 => rfl
 | n + 1 => by simp only [repC, List.all_append, hz, repC_all hz n, Bool.and_self]
theorem aout_newSlice (H : Inv K ι h w) {elem : TypeId} {cs : List CVal} {cs' : Array Value} (R : VRs ι cs cs'.toList) (h1 : cs.all CVal.one = true) {l c : Nat} (hlc : l ≤ c) {s : Sem Next} {id : Nat}
  (hs : s.run P w = ((Go.newRow elem cs').run P w).andThen fun x w => .ok (.value (.slice (some x) l c)) w) : AOut P K ι id (.slice id 0 l c) (.cells cs true none) s w :=
 aout_row H R h1 (fun x => .slice (some x) l c) (fun _ hi => .slice _ 0 _ _ w.heap.size 0 0 _ hi (.inl rfl) hlc) hs
theorem sim_buildSlice (H : Inv K ι h w) {t el : TypeId} {len sz : Nat} (ht : P.underlying t = some (.slice el)) (hn : (sizeOf el).run P w = .ok sz w) (hsmall : len * sz ≤ 16777216) {zv : Value} (hz : (zeroValue el).run P w = .ok zv w) {zero : List CVal} (Rz : VRs ι zero zv.cells.toList) (hzs : zv.cells.size = sz)
  {parts : Array (Nat × Operand)} {qs : List (Nat × Nat × CX)}
  (hp : (qs.map fun p => (p.1, p.2.1, p.2.2.ev a)).length = (parts.toList.map fun p => (p.1, A.eval p.2)).length ∧
   ∀ (j : Nat) (p : Nat × Nat × CVal) (q : Nat × Value), (qs.map fun p => (p.1, p.2.1, p.2.2.ev a))[j]? = some p → (parts.toList.map fun p => (p.1, A.eval p.2))[j]? = some q → (fun i => some (i * sz, sz)) q.1 = some (p.1, p.2.1) ∧ VR ι p.2.2 q.2)
  {o : Oper} (ho : o.op = .buildSlice t len parts)
  {id : Nat} {v : CVal} {obj : CObj} (e : allocC (.buildSlice zero len qs) a id = some (v, obj)) : AOut P K ι id v obj (execOp A.eval o) w := by
 simp only [allocC] at e
 split at e
 ·next cs hcs =>
  split at e
  ·next h1 =>
   simp at e; obtain ⟨rfl, rfl⟩ := e
   obtain ⟨r', h2, h3⟩ := fill_sim (place := fun i => some (i * sz, sz)) _ _ _ _ hp.1 hp.2 (repC_rel Rz len sz hzs) cs hcs
   refine aout_newSlice H (elem := el) (l := len) (c := len) h3 h1 (Nat.le_refl _) ?_
   have hfill : Instr.fill (fun i => some (i * sz, sz)) ((Array.range (len * sz)).map (fun i => zv.cells[i % zv.cells.size]!)) ((parts.map fun (i, x) => (i, A.eval x)).toList) = some r' := by simpa using h2
   have hbs : (Instr.buildSlice t len (parts.map fun (i, x) => (i, A.eval x))).run P w = ((Go.newRow el r').run P w).andThen fun x w => .ok (.slice (some x) len len) w := by
    simp only [Instr.buildSlice, Sem.run_bind, run_underlying ht, Result.andThen, hn]
    rw [if_neg (by omega)]
    by_cases h0 : len * sz = 0
    ·simp only [h0, if_true]
     simp only [h0] at hfill
     have : (Array.range 0).map (fun i => (#[] : Array Value)[i % (#[] : Array Value).size]!) = (Array.range 0).map (fun i => zv.cells[i % zv.cells.size]!) := by simp
     have hpb : ∀ {α β : Type} (x : α) (f : α → Sem β), (pure x >>= f) = f x := fun _ _ => rfl
     simp only [hpb]
     rw [this, hfill]
     simp only [Sem.run_bind, Result.andThen, Sem.run_pure]
    ·simp only [h0, if_false, Sem.run_bind, hz, Result.andThen, Sem.run_pure, hfill]
   simp only [execOp, ho, Sem.run_bind, hbs]
   cases (Go.newRow el r').run P w <;> rfl
  ·simp at e
 ·simp at e
theorem sim_makeSlice (H : Inv K ι h w) {t el : TypeId} {i : TypeInfo} (ht : P.underlying t = some (.slice el)) (hi : P.info? el = some i) {zv : Value} (hz : i.zero = some zv) {zero : List CVal} (Rz : VRs ι zero zv.cells.toList) (hzs : zv.cells.size = i.size) (h1 : zero.all CVal.one = true)
  {L C : Operand} {l c : CX} (hl : VR ι (l.ev a) (A.eval L)) (hc : VR ι (c.ev a) (A.eval C)) {o : Oper} (ho : o.op = .makeSlice t L C)
  {id : Nat} {v : CVal} {obj : CObj} (e : allocC (.makeSlice zero i.bytes l c) a id = some (v, obj)) : AOut P K ι id v obj (execOp A.eval o) w := by
 simp only [allocC] at e
 split at e
 ·next ln cn hln hcn =>
  obtain ⟨kl, hL⟩ := asNat_some hl hln
  obtain ⟨kc, hC⟩ := asNat_some hc hcn
  split at e
  ·next hb =>
   obtain ⟨hlc, hbytes, hc40⟩ := hb
   simp at e; obtain ⟨rfl, rfl⟩ := e
   refine aout_newSlice H (elem := el) (l := ln) (c := cn) (repC_rel Rz cn i.size hzs) (repC_all h1 cn) hlc ?_
   have hb' : (i.bytes : Int) * (cn : Int) ≤ 281474976710656 := by
    have : ((cn * i.bytes : Nat) : Int) ≤ 1099511627776 := by omega
    rw [Int.natCast_mul, Int.mul_comm] at this; omega
   have hrun := run_make (P := P) w t el i zv ht hi hz kl kc (ln : Int) (cn : Int) (by omega) (by omega) hb' (by omega)
   have hnew : (Go.newRow el ((Array.range (cn * i.size)).map (fun j => zv.cells[j % zv.cells.size]!))).run P w = .ok ⟨w.heap.size, 0, none⟩ (w.alloc (.cells (madeCells zv.cells (cn * i.size)) el)) := by
    rfl
   rw [hnew]
   simp only [execOp, ho, hL, hC, Sem.run_bind, hrun]
   rfl
  ·simp at e
 ·simp at e
def PK.fits : PK → TypeDesc → Bool
 | .bool, .bool | .int, .int _ | .str, .string => true
 | _, _ => false
def flatFs (P : Program) : Nat → List Field → List PK → Bool
 | _, [], [] => true
 | j, f :: fs, k :: ks => f.offset == j && f.name != "_" && (match P.underlying f.type with | some d => k.fits d | none => false) && flatFs P (j + 1) fs ks
 | _, _, _ => false
def flatT (P : Program) (t : TypeId) (ks : List PK) : Bool :=
 match P.underlying t with
 | some (.struct fs) => flatFs P 0 fs.toList ks && !P.stoodInHeld t
 | _ => false
def KT.fits (P : Program) (t : TypeId) : KT → Bool
 | .one k => match P.underlying t with | some d => k.fits d | none => false
 | .flat ks => flatT P t ks
theorem run_peq {k : PK} {d : TypeDesc} {t : TypeId} (ht : P.underlying t = some d) (hf : k.fits d = true) {u s : CVal} {u' s' : Value} (hu : VR ι u u') (hs : VR ι s s') {b : Bool} (e : peq k u s = some b) (n : Nat) : (Op.equalIn (n + 1) t u' s').run P w = .ok b w := by
 cases k <;> cases d <;> simp [PK.fits] at hf <;> cases hu <;> cases hs <;> simp [peq] at e
 ·subst e; simp [Op.equalIn, run_underlying ht]
 ·obtain ⟨rfl, rfl⟩ := e; simp [Op.equalIn, run_underlying ht]
 ·subst e
  rw [run_equalIn_string w n t _ _ ht]
  simp [ByteArray.toList_eq]
theorem plain_agg {k : PK} {d : TypeDesc} {t : TypeId} (ht : P.underlying t = some d) (hf : k.fits d = true) : (isAgg t).run P w = .ok false w := by
 cases k <;> cases d <;> simp [PK.fits] at hf <;> simp [isAgg, run_underlying ht]
theorem run_peqs {as bs : List CVal} {as' bs' : Array Value} (ha : VRs ι as as'.toList) (hb : VRs ι bs bs'.toList) (n : Nat) : ∀ (fs : List Field) (ks : List PK) (j : Nat), flatFs P j fs ks = true → ∀ b, peqs ks (as.drop j) (bs.drop j) = some b → (Op.eqFields (n + 1) as' bs' fs).run P w = .ok b w
 | [], [], j, _, b, e => by
  generalize as.drop j = x at e
  generalize bs.drop j = y at e
  cases x <;> cases y <;> simp [peqs] at e
  subst e; simp [Op.eqFields]
 | f :: fs, k :: ks, j, hf, b, e => by
  simp only [flatFs, Bool.and_eq_true, beq_iff_eq, bne_iff_ne, ne_eq] at hf
  obtain ⟨⟨⟨h1, h2⟩, h3⟩, h4⟩ := hf
  split at h3
  ·next d hd =>
   cases hx : as.drop j with
   | nil => rw [hx] at e; simp [peqs] at e
   | cons x xs =>
    cases hy : bs.drop j with
    | nil => rw [hx, hy] at e; simp [peqs] at e
    | cons y ys =>
     rw [hx, hy] at e
     have hxj : as[j]? = some x := by have := List.getElem?_drop (xs := as) (i := j) (j := 0); rw [hx] at this; simpa using this.symm
     have hyj : bs[j]? = some y := by have := List.getElem?_drop (xs := bs) (i := j) (j := 0); rw [hy] at this; simpa using this.symm
     have hxs : as.drop (j + 1) = xs := by rw [← List.drop_drop, hx]; rfl
     have hys : bs.drop (j + 1) = ys := by rw [← List.drop_drop, hy]; rfl
     obtain ⟨x', hx1, hx2⟩ := ha.get j x hxj
     obtain ⟨y', hy1, hy2⟩ := hb.get j y hyj
     have hx3 : as'[j]? = some x' := by simpa using hx1
     have hy3 : bs'[j]? = some y' := by simpa using hy1
     have hag := plain_agg (P := P) (w := w) hd h3
     simp only [peqs] at e
     have step : ∀ c, peq k x y = some c → (Op.eqFields (n + 1) as' bs' (f :: fs)).run P w = if (!c) = true then .ok false w else (Op.eqFields (n + 1) as' bs' fs).run P w := by
      intro c hc
      have hr := run_peq (P := P) (w := w) hd h3 hx2 hy2 hc n
      simp only [Op.eqFields, ne_eq, h2, not_false_eq_true, if_true, Sem.run_bind, part, hag, Result.andThen, Bool.false_eq_true, if_false, h1, hx3, hy3, Sem.run_pure, hr]
      split <;> rfl
     cases hp : peq k x y with
     | none => rw [hp] at e; simp at e
     | some c =>
      rw [hp] at e
      rw [step c hp]
      cases c with
      | false => simp at e; subst e; rfl
      | true =>
       simp at e
       simp only [Bool.not_true, Bool.false_eq_true, if_false]
       exact run_peqs ha hb n fs ks (j + 1) h4 b (by rw [hxs, hys]; exact e)
  ·simp at h3
 | [], _ :: _, _, hf, _, _ => by simp [flatFs] at hf
 | _ :: _, [], _, hf, _, _ => by simp [flatFs] at hf
theorem fieldsOf_eq {t : TypeId} {fs : Array Field} (ht : P.underlying t = some (.struct fs)) : P.fieldsOf t = fs := by simp [Program.fieldsOf, ht]
theorem run_eqS {t : TypeId} {ks : List PK} (hf : flatT P t ks = true) {as bs : List CVal} {as' bs' : Array Value} (ha : VRs ι as as'.toList) (hb : VRs ι bs bs'.toList) {b : Bool} (e : peqs ks as bs = some b) (n : Nat) :
  (Op.equalIn (n + 2) t (.agg as') (.agg bs')).run P w = .ok b w := by
 unfold flatT at hf
 split at hf
 ·next fs hfs =>
  simp only [Bool.and_eq_true, Bool.not_eq_true'] at hf
  rw [run_equalIn_struct w (n + 1) t as' bs' (by rw [fieldsOf_eq hfs]; exact hfs) hf.2, fieldsOf_eq hfs]
  exact run_peqs ha hb n fs.toList ks 0 hf.1 b (by simpa using e)
 ·simp at hf
theorem run_keyeq {t : TypeId} {kt : KT} (hf : kt.fits P t = true) {u s : CVal} {u' s' : Value} (hu : VR ι u u') (hs : VR ι s s') {b : Bool} (e : keyeq kt u s = some b) (n : Nat) : (Op.equalIn (n + 2) t u' s').run P w = .ok b w := by
 cases kt with
 | one k =>
  simp only [KT.fits] at hf
  split at hf
  ·next d hd => exact run_peq hd hf hu hs (by simpa [keyeq] using e) (n + 1)
  ·simp at hf
 | flat ks =>
  cases hu <;> cases hs <;> simp [keyeq] at e
  next as as' ha bs bs' hb => exact run_eqS hf ha hb e n
theorem sim_eqS (H : Inv K ι h w) {neg : Bool} {t t' : TypeId} {ks : List PK} (hf : flatT P t ks = true) (hg : P.eqGuardType P.depth t = false) {X Y : Operand} {x y : CX} (hx : VR ι (x.ev a) (A.eval X)) (hy : VR ι (y.ev a) (A.eval Y))
  {o : Oper} (ho : o.op = .binOp (if neg then .neq else .eql) t X Y t')
  {r : CRes} {h' : Heap} (e : cop (.eqS ks neg x y) a h = some (r, h')) : OutQ P ι h r h' (execOp A.eval o) w := by
 simp only [cop] at e
 split at e
 ·next as bs h1 h2 =>
  rw [h1] at hx; rw [h2] at hy
  split at e
  ·next b hb =>
   simp at e; obtain ⟨rfl, rfl⟩ := e
   generalize hX : A.eval X = X' at hx
   generalize hY : A.eval Y = Y' at hy
   cases hx with
   | agg _ as' ha =>
    cases hy with
    | agg _ bs' hb' =>
     have hr := run_eqS (P := P) (w := w) hf ha hb' hb 9998
     refine out_val H (v' := .bool (if neg then !b else b)) ?_ (.bool _)
     have hgd : ∀ op, (eqGuard op t X Y (.agg as') (.agg bs')).run P w = .ok () w := fun op => run_eqGuard_agg w op t X Y as' bs' hg
     cases neg
     ·simp only [execOp, ho, hX, hY, Sem.run_bind, hgd, Result.andThen_ok, Bool.false_eq_true, if_false, run_eql_struct, hr, Sem.run_pure]
     ·simp only [execOp, ho, hX, hY, Sem.run_bind, hgd, Result.andThen_ok, if_true, run_neq_struct, hr, Sem.run_pure]
  ·simp at e
 ·simp at e
end
end Go.Proofs.YtkjdgdkkepmciaaGreat.Cm
